/- The program logic, a part of it. -/
import Derived.Test.YtelkfhdgmbahgaaAl1
import Derived.Below
import Derived.Calls
import Derived.Laws.BytesString
import Derived.Laws.RangeString
import Derived.OrdersHeld
import Derived.OrdersIn
import Derived.RowKit
import Derived.Shelf.SlSortCmp.NoneTotal
import Derived.Test.YtelkfhdgmbahgaaProg
set_option linter.all false
namespace Go.Proofs.Ytelkfhdgmbahgaa.Al
open Go.ChangeMaps (setBlock)
open Go.MapKept Go.RowKit
set_option linter.unusedVariables false
section
variable {P:Program} {ops:Array Oper} {rest:List Oper} {s:St} {K:St→Prop} {o:Oper}
def Bw (P:Program) (rs:List ResultVar) (K:AV→AZ→Nat→Prop):Exit→St→Prop
 | .normal,s | .ret,s=>∃ r,Ff P rs s r∧K r s.h s.n
 | _,_=>False
theorem QT {f:FuncId} {fn:Func} {code:Code} {args:List AV} {vs:Array Value} {h:AZ} {n N:Nat} {z:Cx} {K:AV→AZ→Nat→Prop} (hf:P.funcs[f]? = some fn) (hb:fn.body=some code) (hN:fn.ntmps=N)
  (hlen:args.length≤N) (hok:z.ok) (hH:z.H=hget h) (hn:z.n=n) (hargs:Db z args vs.toList) (hw:AW P code (Bw P fn.results.toList K) ⟨Cz 0 args,h,n,N⟩) :
  Calls P f vs z.w fun e w'=>∃ u y r h' n',e = .returned u∧y.w=w'∧z.le y∧y.ok∧y.H=hget h'∧y.n=n'∧AS y r u∧K r h' n':=by
 have hvl:vs.size=args.length:=by simpa using hargs.1
 have hsim:Co z ⟨Cz 0 args,h,n,N⟩ { tmps:=vs++Array.replicate (fn.ntmps-vs.size) undef,defers:=[] } z.w:=by
  refine ⟨_,rfl,by simp; omega,z,rfl,.refl z,hok,hH,hn,fun t=>?_⟩
  rcases Kc args 0 t with h1 | ⟨j,a,h1,h2,h3⟩
  ·rw [h1]; exact .any _
  ·rw [h3]
   have hj:j<vs.size:=by rw [hvl]; exact (List.getElem?_eq_some_iff.1 h2).1
   have ht:t=j:=by omega
   subst ht
   have:(vs++Array.replicate (fn.ntmps-vs.size) undef).getD t undef=vs[t]:=by
    simp [Array.getD,hj]
    omega
   rw [this]
   exact hargs.2 t a vs[t] h2 (by simp [hj])
 have fin : ∀ {e:Exit} {a:Act} {y:Cx} {s:St},(∃ r,Ff P fn.results.toList s r∧K r s.h s.n)→z.le y→y.ok→y.H=hget s.h→y.n=s.n→BE y s.e a →
   ∃ u,(results fn a.tmps).run P y.w = .ok u y.w ∧ ∃ u' y' r h' n',Ending.returned u = .returned u'∧y'.w=y.w∧z.le y'∧y'.ok∧y'.H=hget h'∧y'.n=n'∧AS y' r u'∧K r h' n':=by
  intro e a y s ⟨r,h1,h2⟩ hle hok' hH' hn' he
  obtain ⟨u,hrun,hu⟩:=LH (P:=P) hok' hH' he h1
  exact ⟨u,hrun,u,y,r,s.h,s.n,rfl,rfl,hle,hok',hH',hn',hu,h2⟩
 refine Ja hf hb hok hsim (hw) fun e s a y hq hle hok' hH' hn' he=>?_
 cases e with
 | normal=>exact ⟨.inl rfl,fin (e:=.normal) hq hle hok' hH' hn' he⟩
 | ret=>exact ⟨.inr rfl,fin (e:=.ret) hq hle hok' hH' hn' he⟩
 | exit id=>exact hq.elim
 | goto l=>exact hq.elim
 | panic ch=>exact hq.elim
 | outgrown=>exact hq.elim
theorem SD {f:FuncId} {fn:Func} {code:Code} {fo:Operand} {xs:Array Operand} {ats:Array TypeId} {caps bs:List AV} {R:Aj} {h:AZ} {n N:Nat} {a:Act} {z:Cx} {K0:AV→AZ→Nat→Prop}
  (ho : o.op = .call { callee := .value fo, args := xs, argTypes := ats }) (hfo : Ev true R fo (.fn f caps)) (hx : FW true R xs.toList bs) (hf : P.funcs[f]? = some fn) (hb : fn.body = some code) (hname : (fn.name == "runtime.NumGoroutine") = false)
  (hN:fn.ntmps=N) (hlen:(bs++caps).length≤N) (hok:z.ok) (hH:z.H=hget h) (hn:z.n=n) (he:BE z R a) (hw:AW P code (Bw P fn.results.toList K0) ⟨Cz 0 (bs++caps),h,n,N⟩) (K:Act→World→Prop) (Q:Exit→Act→World→Prop)
  (hK : ∀ (u:Value) (y:Cx) (r:AV) (h':AZ) (n':Nat),z.le y→y.ok→y.H=hget h'→y.n=n'→AS y r u→K0 r h' n'→K (a.put o.dst u) y.w):o.wp P a z.w K Q:=by
 obtain ⟨hxl,hxr⟩:=hx.rep rfl he
 have hv:=hfo.rep he rfl
 generalize hfv:a.eval fo=v at hv
 cases hv with
 | @fn _ _ us hl hall=>
  have hrun:=GZ (P:=P) ⟨fn,hf,by rw [hb]; rfl,hname⟩ ho hfv z.w
  have hargs:Db z (bs++caps) (xs.map a.eval++us).toList:=by
   refine ⟨by simp [hl]; simpa using hxl.symm,fun i b u h1 h2=>?_⟩
   have h2':((xs.toList.map a.eval)++us.toList)[i]? = some u:=by simpa using h2
   by_cases hi:i<bs.length
   ·rw [List.getElem?_append_left hi] at h1
    rw [List.getElem?_append_left (by simp at hxl ⊢; omega)] at h2'
    exact hxr i b u h1 h2'
   ·rw [List.getElem?_append_right (by omega)] at h1
    rw [List.getElem?_append_right (by simp at hxl ⊢; omega)] at h2'
    have hxl2:(xs.toList.map a.eval).length=bs.length:=by simpa using hxl.symm
    rw [hxl2] at h2'
    exact hall _ b u h1 (by simpa using h2')
  unfold Oper.wp
  rw [hrun]
  refine (QT hf hb hN hlen hok hH hn hargs hw).mono fun e w' ⟨u,y,r,h',n',he',hyw,hle,hyok,hyH,hyn,hyr,hk⟩=>?_
  subst he'
  subst hyw
  exact hK u y r h' n' hle hyok hyH hyn hyr hk
theorem Ss {d:Nat} {f:FuncId} {fn:Func} {code:Code} {fo:Operand} {xs:Array Operand} {ats:Array TypeId} {N:Nat} (caps bs:List AV) (hg:o.guard=none) (hd:o.dst=some d) (hdN:Nat.blt d s.N=true)
  (ho : o.op = .call { callee := .value fo, args := xs, argTypes := ats }) (hfo : Ev true s.e fo (.fn f caps)) (hx : FW true s.e xs.toList bs) (hf : P.funcs[f]? = some fn) (hb : fn.body = some code) (hname : (fn.name == "runtime.NumGoroutine") = false)
  (hN:fn.ntmps=N) (hlen:Nat.ble (bs++caps).length N=true)
  (hw:AW P code (Bw P fn.results.toList fun r h' n'=>AB P ops rest { e:=(d,r) :: s.e,h:=h',n:=n',N:=s.N } K) ⟨Cz 0 (bs++caps),s.h,s.n,N⟩):AB P ops (o :: rest) s K:=by
 intro c0 a w ⟨_,hdef,hsz,y,hyw,hle,hok,hH,hn,he⟩ Q hQ
 subst hyw
 refine wpList_plain hg fun K' hK'=>?_
 refine SD ho hfo hx hf hb hname hN (Nat.le_of_ble_eq_true hlen) hok hH hn he hw K' Q fun u z r h' n' hyz hzok hzH hzn hzv hr=>?_
 refine hK' _ _ ?_
 have hN':d<a.tmps.size:=by rw [hsz]; exact Bd hdN
 rw [hd]
 exact hr c0 (a.put (some d) u) z.w ⟨_,hdef,by simpa [Act.put] using hsz,z,rfl,hle.trans hyz,hzok,hzH,hzn,(he.mono hyz).put hN' hzv⟩ Q hQ
theorem Bw.intro {rs:List ResultVar} {K:AV→AZ→Nat→Prop} {s:St} (r:AV) (h1:Ff P rs s r) (h2:K r s.h s.n):Bw P rs K .ret s:=⟨r,h1,h2⟩
def BU (P:Program) (x:Code) (Q:Exit→St→Prop):Nat→St→Prop
 | 0,_=>False
 | n+1,s=>AW P x (Dp (BU P x Q n) Q) s
theorem BU.step {Q:Exit→St→Prop} {x:Code} {n:Nat} (h:AW P x (Dp (BU P x Q n) Q) s):BU P x Q (n+1) s:=h
theorem Ck {Q:Exit→St→Prop} {x:Code} (n:Nat) (h:BU P x Q n s):AW P (.loop x) Q s:=by
 refine AW.loop (fun m s=>BU P x Q m s) n ⟨s,AJ.refl s,h⟩ fun m s hm=>?_
 cases m with
 | zero=>exact hm.elim
 | succ m=>
  refine AW.mono (show AW P x (Dp (BU P x Q m) Q) s from hm) fun e s' hq=>?_
  cases e with
  | normal=>exact ⟨m,Nat.lt_succ_self m,s',AJ.refl s',hq⟩
  | _=>exact hq
theorem KF {x:Cx} (hok:x.ok) {id g mid mg since last:Nat} {seen:List Nat} {v:Value} (hH:x.H id=some (.mi g mid mg since seen last)) (hv:AS x (.ptr id g 0 0) v) :
  ∃ b m:Nat,x.β id=some (b,1)∧v = .pointer (some ⟨b,0,none⟩)∧x.w.heap[b]? = some (.mapIter (some m) since seen.toArray last)∧AS x (.mref mid mg) (.map (some m)):=by
 obtain ⟨_,b,m,h1,h2,h3⟩:=hok.obj _ _ hH
 cases hv with
 | ptr _ _ hv=>
  obtain ⟨b',cap,h5,h6⟩:=hv _ hH rfl
  rw [h1] at h5
  simp only [Option.some.injEq,Prod.mk.injEq] at h5
  obtain ⟨rfl,rfl⟩:=h5
  exact ⟨b,m,h1,by rw [h6,Nat.zero_mul],h2,h3⟩
section
variable {c:Bool} {R:Aj} {h:AZ} {n:Nat}
theorem SH {x:Operand} {id g mid mg since last clock k born:Nat} {ks:List (Int × Nat)} {vs:List AV} {seen:List Nat} (ho:o.op = .next x false) (hx:Ev c R x (.ptr id g 0 0)) (hh:hget h id=some (.mi g mid mg since seen last))
  (hm:hget h mid=some (.mp mg ks vs clock)) (hold:(ks.all fun p=>decide (p.2<since))=true) (hsc:Nat.ble since last=true) (hall:(ks.all fun p=>seen.contains p.2)=true) :
  A2 P c o R h n (.tup [.r (.bool false)]) h n:=by
 intro hc z w hok hH hn he K Q hK
 obtain ⟨b,m,h1,h2,h3,h4⟩:=KF hok (by rw [hH]; exact hh) (hx.rep he hc)
 obtain ⟨bm,us,k1,k2,k3,k4,k5,k6⟩:=FY hok (by rw [hH]; exact hm) h4
 cases k2
 have hold' : ∀ e∈(Bh ks us).toArray.toList,e.born<since:=by
  intro e he'
  simp only [Bh,List.mem_map] at he'
  obtain ⟨p,hp,rfl⟩:=he'
  have:=List.all_eq_true.1 hold p.1 (List.of_mem_zip hp).1
  simpa using this
 have hleft:leftOf (Bh ks us).toArray seen.toArray = #[]:=by
  unfold leftOf
  rw [Array.filter_eq_empty_iff]
  intro e he'
  simp only [Bh,List.mem_toArray,List.mem_map] at he'
  obtain ⟨p,hp,rfl⟩:=he'
  have:=List.all_eq_true.1 hall p.1 (List.of_mem_zip hp).1
  simpa using this
 unfold Oper.wp execOp
 rw [ho]
 have hrun:(Instr.next (.pointer (some ⟨b,0,none⟩)) false o.type).run P z.w = .ok (.tuple #[.bool false]) z.w:=by
  rcases run_next_at (P:=P) z.w o.type b m since last seen.toArray _ clock h3 k5 hold' (Nat.le_of_ble_eq_true hsc) with ⟨_,h⟩ | ⟨e,he',_⟩
  ·exact h
  ·rw [hleft] at he'; simp at he'
 simp only [h2,Sem.run_bind,hrun,Result.andThen_ok,Sem.run_pure]
 refine hK (.tuple #[.bool false]) z (Cx.le.refl z) hok hH hn (.tup rfl fun i a u ha hu=>?_)
 rcases i with _ | i
 ·simp at ha hu; subst ha; subst hu; exact .r (.bool false)
 ·simp at ha
theorem Ok {x:Operand} {id g mid mg since last clock:Nat} {k:Int} {born:Nat} {v:AV} (ho:o.op = .next x false) (hx:Ev c R x (.ptr id g 0 0)) (hh:hget h id=some (.mi g mid mg since [] last))
  (hm:hget h mid=some (.mp mg [(k,born)] [v] clock)) (hold:Nat.blt born since=true) (hsc:Nat.ble since last=true) :
  A2 P c o R h n (.tup [.r (.bool true),.r (.int .i64 k),v]) ((id,some (.mi g mid mg since [born] clock)) :: h) n:=by
 intro hc z w hok hH hn he K Q hK
 have hHid:z.H id=some (.mi g mid mg since [] last):=by rw [hH]; exact hh
 obtain ⟨b,m,h1,h2,h3,h4⟩:=KF hok hHid (hx.rep he hc)
 obtain ⟨bm,us,k1,k2,k3,k4,k5,k6⟩:=FY hok (by rw [hH]; exact hm) h4
 cases k2
 obtain ⟨u,rfl⟩:=List.length_eq_one_iff.1 k3
 have hb:=(hok.own id _ b 1 hHid h1).1
 have hrun : ∃ w1:World,(w1=z.w∨w1=z.w.drew)∧(Instr.next (.pointer (some ⟨b,0,none⟩)) false o.type).run P z.w = .ok (.tuple #[.bool true,.int .i64 k,u]) (setBlock w1 b (.mapIter (some m) since #[born] clock)):=by
  have hold' : ∀ e∈(Bh [(k,born)] [u]).toArray.toList,e.born<since:=by
   intro e he'
   simp [Bh] at he'
   subst he'
   exact Bd hold
  rcases run_next_at (P:=P) z.w o.type b m since last #[] _ clock h3 k5 hold' (Nat.le_of_ble_eq_true hsc) with ⟨h,_⟩ | ⟨e,he',w1,hw1,hr⟩
  ·simp [leftOf,Bh] at h
  ·simp [leftOf,Bh] at he'
   subst he'
   exact ⟨w1,hw1,hr⟩
 obtain ⟨w1,hw1,hrun⟩:=hrun
 have hwh:w1.heap=z.w.heap:=by rcases hw1 with rfl | rfl <;> rfl
 have hwo:w1.os=z.w.os:=by rcases hw1 with rfl | rfl <;> rfl
 have hwt:w1.tape=z.w.tape:=by rcases hw1 with rfl | rfl <;> rfl
 have hwu:w1.output=z.w.output:=by rcases hw1 with rfl | rfl <;> rfl
 have hup:=CB hok id (.mi g mid mg since [born] clock) (setBlock w1 b (.mapIter (some m) since #[born] clock)) (some (b,1)) z.n (by simp [setBlock,hwh]) hwo hwt hwu
  (fun b' _ hne=>by
   have:b≠b':=fun e=>hne _ 1 hHid (by rw [← e]; exact h1)
   simp [setBlock,hwh,this])
  (fun b' k' hb'=>by cases hb'; exact ⟨by simpa [setBlock,hwh] using hb,.inr ⟨_,_,hHid,h1⟩⟩) (Nat.le_refl _) (hok.obj _ _ hHid).1 (fun _=>⟨_,hHid,rfl,rfl,h1.symm⟩)
  (fun hle=>⟨b,m,rfl,by simp [setBlock,hwh,hb],h4.mono hle⟩)
 unfold Oper.wp execOp
 rw [ho]
 simp only [h2,Sem.run_bind,hrun,Result.andThen_ok,Sem.run_pure]
 refine hK _ _ hup.1 hup.2 (by simp only [hH]; exact BV _ _ _) hn (.tup rfl fun i a u' ha hu=>?_)
 rcases i with _ | _ | _ | i
 ·simp at ha hu; subst ha; subst hu; exact .r (.bool true)
 ·simp at ha hu; subst ha; subst hu; exact .r (.int _ _)
 ·simp at ha hu; subst ha; subst hu; exact (k6 0 _ _ rfl rfl).mono hup.1
 ·simp at ha
theorem Ri {x:Operand} {id g mid mg since clock:Nat} {k:Int} {born:Nat} {v:AV} (ho:o.op = .entry x) (hx:Ev c R x (.ptr id g 0 0)) (hh:hget h id=some (.mi g mid mg since [born] clock))
  (hm:hget h mid=some (.mp mg [(k,born)] [v] clock)):AC P c o R h (.tup [.r (.int .i64 k),v]):=by
 intro hc z w hok hH he
 obtain ⟨b,m,h1,h2,h3,h4⟩:=KF hok (by rw [hH]; exact hh) (hx.rep he hc)
 obtain ⟨bm,us,k1,k2,k3,k4,k5,k6⟩:=FY hok (by rw [hH]; exact hm) h4
 cases k2
 obtain ⟨u,rfl⟩:=List.length_eq_one_iff.1 k3
 refine ⟨.tuple #[.int .i64 k,u],fun w2 hag=>?_,.tup rfl fun i a u' ha hu=>?_⟩
 ·have hb2:w2.heap[b]? = some (.mapIter (some m) since #[born] clock):=by rw [hag b (.inr ⟨id,_,1,by rw [hH]; exact hh,.inl h1⟩)]; exact h3
  have hm2:w2.heap[m]? = some (.map (Bh [(k,born)] [u]).toArray clock):=by rw [hag m (.inr ⟨mid,_,1,by rw [hH]; exact hm,.inl k1⟩)]; exact k5
  have hrun:=run_entry_at (P:=P) w2 b m since #[] _ clock { key:=.int .i64 k,val:=u,born:=born } hb2 hm2 (by simp [Bh]) (by simp [Bh])
  simp only [execOp,ho,h2,Sem.run_bind,hrun,Result.andThen_ok,Sem.run_pure]
 ·rcases i with _ | _ | i
  ·simp at ha hu; subst ha; subst hu; exact .r (.int _ _)
  ·simp at ha hu; subst ha; subst hu; exact k6 0 _ _ rfl rfl
  ·simp at ha
end
end
end Go.Proofs.Ytelkfhdgmbahgaa.Al

namespace Go.Proofs.Ytelkfhdgmbahgaa.Al
open Go.ChangeMaps (setBlock)
open Go.MapKept Go.RowKit
def AN {α:Type} : List (Int × α)→Int→Option α
 | [],_=>none
 | p :: r,k=>if k=p.1 then some p.2 else AN r k
def Ai {α:Type} : List (Int × α)→Int→α→List (Int × α)
 | [],k,v=>[(k,v)]
 | p :: r,k,v=>if k=p.1 then (k,v) :: r else p :: Ai r k v
def AM {α β:Type} (rd:α→β) (m:List (Int × α)):List (Int × β):=m.map fun p=>(p.1,rd p.2)
theorem Fi {α β:Type} (rd:α→β) (m:List (Int × α)) (k:Int):AN (AM rd m) k=(AN m k).map rd:=by
 induction m with
 | nil=>rfl
 | cons p r ih=>
  show (if k=p.1 then some (rd p.2) else AN (AM rd r) k)=(if k=p.1 then some p.2 else AN r k).map rd
  split
  ·rfl
  ·exact ih
theorem Is {α β:Type} (rd:α→β) (m:List (Int × α)) (k:Int) (v:α):Ai (AM rd m) k (rd v)=AM rd (Ai m k v):=by
 induction m with
 | nil=>rfl
 | cons p r ih=>
  show (if k=p.1 then (k,rd v) :: AM rd r else (p.1,rd p.2) :: Ai (AM rd r) k (rd v))=AM rd (if k=p.1 then (k,v) :: r else p :: Ai r k v)
  split
  ·rfl
  ·rw [ih]; rfl
theorem CY {α:Type} {l:List (Int × α)} {k:Int} (h:Ad l k=none):AN l k=none ∧ ∀ v,Ai l k v=l++[(k,v)]:=by
 induction l with
 | nil=>exact ⟨rfl,fun _=>rfl⟩
 | cons p r ih=>
  unfold Ad at h
  split at h
  ·cases h
  ·rename_i hk
   have h2:Ad r k=none:=by cases hr:Ad r k with | none=>rfl | some j=>rw [hr] at h; cases h
   obtain ⟨e1,e2⟩:=ih h2
   exact ⟨by unfold AN; rw [if_neg hk,e1],fun v=>by unfold Ai; rw [if_neg hk,e2]; rfl⟩
theorem Bm {α:Type} {l:List (Int × α)} {k:Int} {j:Nat} (h:Ad l k=some j) : ∃ v,l[j]? = some (k,v)∧AN l k=some v ∧ ∀ w,Ai l k w=l.set j (k,w):=by
 induction l generalizing j with
 | nil=>cases h
 | cons p r ih=>
  unfold Ad at h
  split at h
  ·rename_i hk
   cases h
   subst hk
   exact ⟨p.2,rfl,by unfold AN; rw [if_pos rfl],fun w=>by unfold Ai; rw [if_pos rfl]; rfl⟩
  ·rename_i hk
   rw [Option.map_eq_some_iff] at h
   obtain ⟨j',h1,rfl⟩:=h
   obtain ⟨v,e1,e2,e3⟩:=ih h1
   exact ⟨v,e1,by unfold AN; rw [if_neg hk,e2],fun w=>by unfold Ai; rw [if_neg hk,e3]; rfl⟩
theorem NS {α:Type} {l:List (Int × α)} {k:Int} {j:Nat} (h:Ad l k=some j):j<l.length:=by
 obtain ⟨v,h1,_⟩:=Bm h
 exact (List.getElem?_eq_some_iff.1 h1).1
theorem Jg {α β:Type} (f:Int × α→Int × β) (hf : ∀ p,(f p).1=p.1) (m:List (Int × α)) (k:Int):Ad (m.map f) k=Ad m k:=by
 induction m with
 | nil=>rfl
 | cons p r ih=>
  show (if k=(f p).1 then some 0 else (Ad (r.map f) k).map (· + 1))=(if k=p.1 then some 0 else (Ad r k).map (· + 1))
  rw [hf,ih]
def DC {α:Type} (l:List (Int × α)) (es:List MapEntry):Prop:=es.length=l.length ∧ ∀ (j:Nat) (k:Int) (d:α),l[j]? = some (k,d) → ∃ m,es[j]? = some m∧m.key = .int .i64 k∧m.born=j
theorem NC {α:Type} (k:Int) : ∀ (l:List (Int × α)) (es:List MapEntry) (i:Nat),es.length=l.length→(∀ (j:Nat) (k':Int) (d:α),l[j]? = some (k',d) → ∃ m,es[j]? = some m∧m.key = .int .i64 k') →
  Instr.findNow (.int .i64) (.int .i64 k) es i=some ((Ad l k).map fun j=>(i+j,((es[j]?).map (·.val)).getD undef))
 | [],[],i,_,_=>rfl
 | [],_ :: _,i,h,_=>by simp at h
 | _ :: _,[],i,h,_=>by simp at h
 | p :: l,e :: es,i,h,hk=>by
  obtain ⟨m,h1,h2⟩:=hk 0 p.1 p.2 rfl
  cases h1
  have ih:=NC k l es (i+1) (by simpa using h) fun j k' d hj=>hk (j+1) k' d hj
  simp only [Instr.findNow,h2,Instr.sameNow,if_true,Ad]
  by_cases hkk:k=p.1
  ·rw [if_pos hkk,show (k == p.1)=true by simpa using hkk]; simp
  ·rw [if_neg hkk,show (k == p.1)=false by simpa using hkk]
   simp only [ih]
   cases Ad l k with
   | none=>rfl
   | some j=>simp [Nat.add_assoc,Nat.add_comm 1 j]
theorem DC.find {α:Type} {l:List (Int × α)} {es:List MapEntry} (h:DC l es) (k:Int):Instr.findNow (.int .i64) (.int .i64 k) es.toArray.toList 0=some ((Ad l k).map fun j=>(j,((es[j]?).map (·.val)).getD undef)):=by
 have:=NC k l es 0 h.1 fun j k' d hj=>by obtain ⟨m,h1,h2,_⟩:=h.2 j k' d hj; exact ⟨m,h1,h2⟩
 simpa using this
section
variable {P:Program}
theorem GJ {α:Type} {l:List (Int × α)} {es:List MapEntry} (hes:DC l es) {t kt et:TypeId} (ht:P.underlying t=some (.map kt et)) (hk:P.underlying kt=some (.int .i64)) {w:World} {b clock:Nat}
  (hb:w.heap[b]? = some (.map es.toArray clock)) (k:Int) (zv:Value) (hz:(zeroValue et).run P w = .ok zv w) (ok:Bool) :
  (Instr.lookup t (.map (some b)) (.int .i64 k) ok).run P w = .ok (match Ad l k with
   | some j=>if ok then .tuple #[((es[j]?).map (·.val)).getD undef,.bool true] else ((es[j]?).map (·.val)).getD undef
   | none=>if ok then .tuple #[zv,.bool false] else zv) w:=by
 have hf:=run_findKey (P:=P) (w:=w) hk (hes.find k)
 unfold Instr.lookup
 simp only [Sem.run_bind,run_underlying ht,Result.andThen_ok,MapKept.run_getObj_map hb,Sem.run_pure,run_checkKey hk (k:=.int .i64 k) (by simp [IsKey]),hf]
 cases Ad l k with
 | none=>cases ok <;> simp [hz]
 | some j=>cases ok <;> simp
def CW (es:List MapEntry) (k:Int) (j:Option Nat) (y:Value):List MapEntry:=match j with
 | none=>es++[{ key:=.int .i64 k,val:=y,born:=es.length }]
 | some j=>es.modify j fun e=>{ e with key:=.int .i64 k,val:=y }
theorem Id {α:Type} {l:List (Int × α)} {es:List MapEntry} (hes:DC l es) {t kt et:TypeId} (ht:P.underlying t=some (.map kt et)) (hk:P.underlying kt=some (.int .i64)) {w:World} {b:Nat}
  (hb:w.heap[b]? = some (.map es.toArray l.length)) (k:Int) (y:Value) :
  (Instr.mapUpdate t (.map (some b)) (.int .i64 k) y).run P w = .ok () { w with heap:=w.heap.setIfInBounds b (.map (CW es k (Ad l k) y).toArray (CW es k (Ad l k) y).length) }:=by
 have hf:=run_findKey (P:=P) (w:=w) hk (hes.find k)
 unfold Instr.mapUpdate
 simp only [Sem.run_bind,run_underlying ht,Result.andThen_ok,MapKept.run_getObj_map hb,run_checkKey hk (k:=.int .i64 k) (by simp [IsKey]),hf]
 cases hj:Ad l k with
 | none=>
  simp only [Option.map_none]
  rw [run_setObj_map _ hb]
  simp [CW,hes.1]
 | some j=>
  obtain ⟨v,h1,_⟩:=Bm hj
  obtain ⟨m,h2,h3,h4⟩:=hes.2 j k v h1
  have hm:es.toArray[j]? = some m:=by simpa using h2
  simp only [Option.map_some,hm,Option.getD_some,h3]
  simp [Instr.keyThatStays,Instr.sameBits]
  rw [run_setObj_map _ hb]
  simp [CW,hes.1]
theorem M9 {α:Type} {l:List (Int × α)} {es:List MapEntry} (hes:DC l es) (k:Int) (y:Value) (v:α):DC (Ai l k v) (CW es k (Ad l k) y)∧(CW es k (Ad l k) y).length=(Ai l k v).length ∧
  ∀ (j:Nat) (k':Int) (d:α),(Ai l k v)[j]? = some (k',d) → ∃ m,(CW es k (Ad l k) y)[j]? = some m∧m.key = .int .i64 k'∧m.born=j ∧
   ((Ad l k=some j∨(Ad l k=none∧j=l.length))∧k'=k∧d=v∧m.val=y∨Ad l k≠some j∧j<l.length∧l[j]? = some (k',d)∧es[j]? = some m):=by
 have key:(CW es k (Ad l k) y).length=(Ai l k v).length ∧
  ∀ (j:Nat) (k':Int) (d:α),(Ai l k v)[j]? = some (k',d) → ∃ m,(CW es k (Ad l k) y)[j]? = some m∧m.key = .int .i64 k'∧m.born=j ∧
   ((Ad l k=some j∨(Ad l k=none∧j=l.length))∧k'=k∧d=v∧m.val=y∨Ad l k≠some j∧j<l.length∧l[j]? = some (k',d)∧es[j]? = some m):=by
  cases hj:Ad l k with
  | none=>
   rw [(CY hj).2]
   refine ⟨by simp [CW,hes.1],fun j k' d h=>?_⟩
   by_cases hlt:j<l.length
   ·rw [List.getElem?_append_left hlt] at h
    obtain ⟨m,h1,h2,h3⟩:=hes.2 j k' d h
    exact ⟨m,by show (es++_)[j]? = _; rw [List.getElem?_append_left (by rw [hes.1]; exact hlt)]; exact h1,h2,h3,.inr ⟨(by simp),hlt,h,h1⟩⟩
   ·have hj':j=l.length:=by have:=(List.getElem?_eq_some_iff.1 h).1; simp at this; omega
    subst hj'
    rw [List.getElem?_append_right (Nat.le_refl _)] at h
    simp at h
    obtain ⟨rfl,rfl⟩:=h
    exact ⟨_,by show (es++_)[l.length]? = _; rw [← hes.1,List.getElem?_append_right (Nat.le_refl _)]; simp; rfl,rfl,hes.1,.inl ⟨.inr ⟨rfl,rfl⟩,rfl,rfl,rfl⟩⟩
  | some j0=>
   obtain ⟨v0,h1,_,h3⟩:=Bm hj
   rw [h3]
   have hlt0:=NS hj
   refine ⟨by simp [CW,hes.1],fun j k' d h=>?_⟩
   by_cases hjj:j0=j
   ·subst hjj
    rw [List.getElem?_set_self hlt0] at h
    cases h
    obtain ⟨m,e1,e2,e3⟩:=hes.2 j0 k v0 h1
    exact ⟨{ m with key:=.int .i64 k,val:=y },by show (es.modify j0 _)[j0]? = _; rw [List.getElem?_modify_eq,e1]; rfl,rfl,e3,.inl ⟨.inl rfl,rfl,rfl,rfl⟩⟩
   ·rw [List.getElem?_set_ne hjj] at h
    obtain ⟨m,e1,e2,e3⟩:=hes.2 j k' d h
    exact ⟨m,by show (es.modify j0 _)[j]? = _; rw [List.getElem?_modify_ne (h:=hjj)]; exact e1,e2,e3,.inr ⟨(fun e=>hjj (Option.some.inj e)),(List.getElem?_eq_some_iff.1 h).1,h,e1⟩⟩
 exact ⟨⟨key.1,fun j k' d h=>by obtain ⟨m,h1,h2,h3,_⟩:=key.2 j k' d h; exact ⟨m,h1,h2,h3⟩⟩,key⟩
variable {c:Bool} {o:Oper} {R:Aj} {h:AZ} {n:Nat}
theorem NG {x:Cx} (hok:x.ok) {id g:Nat} {l:List (Int × RV)} {v:Value} (hH:x.H id=some (.md g l)) (hv:AS x (.mref id g) v) :
  ∃ (b:Nat) (es:List MapEntry),x.β id=some (b,1)∧v = .map (some b)∧DC l es∧x.w.heap[b]? = some (.map es.toArray l.length) ∧ ∀ (j:Nat) (k:Int) (d:RV) (m:MapEntry),l[j]? = some (k,d)→es[j]? = some m→Av x.w x.S d m.val:=by
 obtain ⟨_,b,es,h1,h2,h3,h4⟩:=hok.obj _ _ hH
 cases hv with
 | mref _ _ hv=>
  obtain ⟨b',cap,k1,k2⟩:=hv _ hH rfl
  rw [h1] at k1
  simp only [Option.some.injEq,Prod.mk.injEq] at k1
  obtain ⟨rfl,rfl⟩:=k1
  exact ⟨b,es,h1,k2,⟨h3,fun j k d hj=>by obtain ⟨m,e1,e2,e3,_⟩:=h4 j k d hj; exact ⟨m,e1,e2,e3⟩⟩,h2,fun j k d m hj hm=>by
   obtain ⟨m',e1,_,_,e4⟩:=h4 j k d hj
   rw [hm] at e1; cases e1; exact e4⟩
theorem P2 {t:TypeId} (id:Nat) (ho:o.op = .makeMap t none):A2 P c o R h n (.mref id n) ((id,some (.md n [])) :: h) (n+1):=by
 intro hc z w hok hH hn he K Q hK
 have hup:=CB hok id (.md z.n []) (z.w.alloc (.map #[] 0)) (some (z.w.heap.size,1)) (z.n+1) (by simp) rfl rfl rfl
  (fun b hb _=>heap_alloc_old _ _ hb) (fun b k hb=>by cases hb; simp) (by omega) (by simp [AY.gen]) (fun hg=>absurd hg (by simp [AY.gen]))
  (fun hle=>⟨z.w.heap.size,[],rfl,heap_alloc_new _ _,rfl,fun j k d hj=>by simp at hj⟩)
 unfold Oper.wp execOp
 rw [ho]
 simp only [Option.map_none,Sem.run_bind,run_makeMap,Result.andThen_ok,Sem.run_pure]
 refine hK (.map (some z.w.heap.size)) _ hup.1 hup.2 (by simp only [hH,hn]; exact BV _ _ _) (by simp [hn]) (.mref (by simp [hn]) rfl fun o' ho' _=>?_)
 exact ⟨z.w.heap.size,1,by simp,rfl⟩
theorem JA {α:Type} {rd:α→RV} {t kt et:TypeId} {x i:Operand} {id g:Nat} {m:List (Int × α)} {k:Int} (ok:Bool) (zv:Value) (z:α) (ho:o.op = .lookup t x i ok) (ht:P.underlying t=some (.map kt et))
  (hk:P.underlying kt=some (.int .i64)) (hz : ∀ w,(zeroValue et).run P w = .ok zv w) (hzr : ∀ w S,Av w S (rd z) zv) (hx:Ev c R x (.mref id g)) (hi:Ev c R i (.r (.int .i64 k))) (hh:hget h id=some (.md g (AM rd m))) :
  AC P c o R h (match ok with | true=>.tup [.r (rd ((AN m k).getD z)),.r (.bool (AN m k).isSome)] | false=>.r (rd ((AN m k).getD z))):=by
 intro hc y w hok hH he
 obtain ⟨b,es,h1,h2,h3,h4,h5⟩:=NG hok (by rw [hH]; exact hh) (hx.rep he hc)
 have hiv:=hi.rep he hc
 generalize hiw:w.eval i=iv at hiv
 cases hiv with
 | r hiv=>
  cases hiv with
  | int=>
   have hb2 : ∀ w2:World,Bo y w2→w2.heap[b]? = some (.map es.toArray (AM rd m).length):=fun w2 hag=>by rw [hag b (.inr ⟨id,_,1,by rw [hH]; exact hh,.inl h1⟩)]; exact h4
   cases hj:Ad (AM rd m) k with
   | none=>
    have hg:AN m k=none:=by
     have:=(CY hj).1
     rw [Fi] at this
     simpa using this
    rw [hg]
    refine ⟨match ok with | true=>.tuple #[zv,.bool false] | false=>zv,fun w2 hag=>?_,?_⟩
    ·simp only [execOp,ho,h2,hiw,Sem.run_bind,GJ h3 ht hk (hb2 w2 hag) k zv (hz w2) ok,hj,Result.andThen_ok,Sem.run_pure]
     cases ok <;> simp
    ·cases ok
     ·exact .r (hzr _ _)
     ·refine .tup rfl fun q a' u' e1 e2=>?_
      rcases q with _ | _ | q
      ·simp at e1 e2; subst e1; subst e2; exact .r (hzr _ _)
      ·simp at e1 e2; subst e1; subst e2; exact .r (.bool _)
      ·simp at e1
   | some j=>
    obtain ⟨v,e1,e2,_⟩:=Bm hj
    obtain ⟨mm,e3,_⟩:=h3.2 j k v e1
    have hr:=h5 j k v mm e1 e3
    have hg : ∃ a,AN m k=some a∧rd a=v:=by
     rw [Fi] at e2
     rw [Option.map_eq_some_iff] at e2
     exact e2
    obtain ⟨a,hg,rfl⟩:=hg
    rw [hg]
    refine ⟨match ok with | true=>.tuple #[mm.val,.bool true] | false=>mm.val,fun w2 hag=>?_,?_⟩
    ·simp only [execOp,ho,h2,hiw,Sem.run_bind,GJ h3 ht hk (hb2 w2 hag) k zv (hz w2) ok,hj,e3,Result.andThen_ok,Sem.run_pure]
     cases ok <;> simp
    ·cases ok
     ·exact .r hr
     ·refine .tup rfl fun q a' u' e1 e2=>?_
      rcases q with _ | _ | q
      ·simp at e1 e2; subst e1; subst e2; exact .r hr
      ·simp at e1 e2; subst e1; subst e2; exact .r (.bool _)
      ·simp at e1
theorem If {α:Type} {rd:α→RV} {t kt et:TypeId} {x i y:Operand} {id g:Nat} {m:List (Int × α)} {k:Int} {a:α} (ho:o.op = .mapUpdate t x i y∨o.op = .insert t x i y) (ht:P.underlying t=some (.map kt et)) (hk:P.underlying kt=some (.int .i64))
  (hx:Ev c R x (.mref id g)) (hi:Ev c R i (.r (.int .i64 k))) (hy:Ev c R y (.r (rd a))) (hh:hget h id=some (.md g (AM rd m))) :
  A2 P c o R h n .any ((id,some (.md g (AM rd (Ai m k a)))) :: h) n:=by
 intro hc z w hok hH hn he K Q hK
 have hHid:z.H id=some (.md g (AM rd m)):=by rw [hH]; exact hh
 obtain ⟨b,es,h1,h2,h3,h4,h5⟩:=NG hok hHid (hx.rep he hc)
 have hya:=hy.rep he hc
 have hiv:=hi.rep he hc
 generalize hiw:w.eval i=iv at hiv
 cases hiv with
 | r hiv=>
  cases hiv with
  | int=>
   cases hya with
   | r hya=>
   have hb:=(hok.own id _ b 1 hHid h1).1
   obtain ⟨q1,q2,q3⟩:=M9 h3 k (w.eval y) (rd a)
   rw [Is] at q1 q2 q3
   have hup:=CB hok id (.md g (AM rd (Ai m k a))) { z.w with heap:=z.w.heap.setIfInBounds b (.map (CW es k (Ad (AM rd m) k) (w.eval y)).toArray (CW es k (Ad (AM rd m) k) (w.eval y)).length) } (some (b,1)) z.n (by simp) rfl rfl rfl
    (fun b' _ hne=>by
     have:b≠b':=fun e=>hne _ 1 hHid (by rw [← e]; exact h1)
     simp [this])
    (fun b' k' hb'=>by cases hb'; exact ⟨by simpa using hb,.inr ⟨_,_,hHid,h1⟩⟩) (Nat.le_refl _) (hok.obj _ _ hHid).1 (fun _=>⟨_,hHid,rfl,rfl,h1.symm⟩)
    (fun hle=>⟨b,CW es k (Ad (AM rd m) k) (w.eval y),rfl,by simp [hb,q2],q2,fun j k' d hj=>by
     obtain ⟨mm,e1,e2,e3,e4⟩:=q3 j k' d hj
     refine ⟨mm,e1,e2,e3,?_⟩
     rcases e4 with ⟨_,rfl,rfl,e⟩ | ⟨_,_,f1,f2⟩
     ·rw [e]; exact hya.mono (fun b hb=>hle.blk b (.inl hb)) hle.S
     ·exact (h5 j k' d mm f1 f2).mono (fun b hb=>hle.blk b (.inl hb)) hle.S⟩)
   have hrun:=Id h3 ht hk h4 k (w.eval y)
   unfold Oper.wp execOp
   rcases ho with ho | ho <;>
   ·rw [ho]
    simp only [h2,hiw,Sem.run_bind,hrun,Result.andThen_ok,Sem.run_pure]
    exact hK undef _ hup.1 hup.2 (by simp only [hH]; exact BV _ _ _) hn (.any _)
end
end Go.Proofs.Ytelkfhdgmbahgaa.Al

namespace Go.Proofs.Ytelkfhdgmbahgaa.Al
open Go.ChangeMaps (setBlock)
open Go.MapKept Go.RowKit
def Cx.tk (x:Cx) (id id':Nat) (o:AY) (w':World) (β':Option (Nat × Nat)) (κ':Nat→Option (Nat × Nat)) (n':Nat):Cx:=
 { x with w:=w',H:=fun i=>if id=i then some o else if id'=i then none else x.H i,β:=fun i=>if id=i then β' else x.β i,K:=fun i=>if id=i then κ' else x.K i,n:=n' }
theorem Dt {x:Cx} {id id':Nat} {o:AY} {w':World} {β':Option (Nat × Nat)} {κ':Nat→Option (Nat × Nat)} {n' i:Nat} {o':AY} (h:(x.tk id id' o w' β' κ' n').H i=some o') :
  (id=i∧o'=o∧(x.tk id id' o w' β' κ' n').β i=β'∧(x.tk id id' o w' β' κ' n').K i=κ')∨(i≠id∧i≠id'∧x.H i=some o'∧(x.tk id id' o w' β' κ' n').β i=x.β i∧(x.tk id id' o w' β' κ' n').K i=x.K i):=by
 unfold Cx.tk at h ⊢
 dsimp only at h ⊢
 by_cases h1:id=i
 ·rw [if_pos h1] at h ⊢
  cases h
  exact .inl ⟨h1,rfl,rfl,by rw [if_pos h1]⟩
 ·rw [if_neg h1] at h ⊢
  split at h
  ·cases h
  ·rename_i h2
   exact .inr ⟨fun e=>h1 e.symm,fun e=>h2 e.symm,h,rfl,by rw [if_neg h1]⟩
theorem Sn {x:Cx} (hok:x.ok) (id id':Nat) (o:AY) (w':World) (β':Option (Nat × Nat)) (κ':Nat→Option (Nat × Nat)) (n':Nat)
  (hsize:x.w.heap.size≤w'.heap.size) (hos:w'.os=x.w.os) (htape:w'.tape=x.w.tape) (hout:w'.output=x.w.output)
  (hfr : ∀ b,b<x.w.heap.size→(∀ i o0,i=id∨i=id'→x.H i=some o0→x.at i b→False)→w'.heap[b]? = x.w.heap[b]?)
  (hβ : ∀ b k,β'=some (b,k)→b<w'.heap.size∧(x.w.heap.size≤b ∨ ∃ i o0,(i=id∨i=id')∧x.H i=some o0∧x.at i b))
  (hκ : ∀ j b k,κ' j=some (b,k)→(b<w'.heap.size∧(x.w.heap.size≤b ∨ ∃ i o0,(i=id∨i=id')∧x.H i=some o0∧x.at i b))∧(∀ k',β'=some (b,k')→False) ∧ ∀ j' k',κ' j'=some (b,k')→j'=j)
  (hn:x.n≤n') (hgen:o.gen<n') (hold:o.gen<x.n∨o.isCal=true → ∃ o0,x.H id=some o0∧o0.gen=o.gen∧o0.shape=o.shape∧β'=x.β id)
  (hfl:o.isFam=true→o.gen<x.n→o.ver<x.n → ∃ o0,x.H id=some o0∧o0.isFam=true∧o0.gen=o.gen∧o0.ver=o.ver∧o0.kshape=o.kshape∧κ'=x.K id)
  (hrep:x.le (x.tk id id' o w' β' κ' n')→Bl (x.tk id id' o w' β' κ' n') β' κ' o) :
  x.le (x.tk id id' o w' β' κ' n')∧(x.tk id id' o w' β' κ' n').ok:=by
 have hnew : ∀ b,(x.w.heap.size≤b ∨ ∃ i o0,(i=id∨i=id')∧x.H i=some o0∧x.at i b)→(¬ x.S b ∧ ¬ x.F b) ∧ ∀ i o',i≠id→i≠id'→x.H i=some o'→x.at i b→False:=by
  intro b hb
  rcases hb with hb | ⟨i0,o0,h0,h1,h2⟩
  ·exact ⟨⟨fun h=>by have:=hok.S_lt b h; omega,fun h=>by have:=hok.F_lt b h; omega⟩,fun i o' _ _ hi ha=>by have:=(hok.at_lt hi ha).1; omega⟩
  ·exact ⟨(hok.at_lt h1 h2).2,fun i o' hne hne' hi ha=>by
    have:=hok.at_inj hi h1 ha h2
    subst this
    exact h0.elim hne hne'⟩
 have hle:x.le (x.tk id id' o w' β' κ' n'):=by
  refine ⟨hsize,hos,htape,hout,fun b hb=>?_,fun _ h=>h,rfl,hn,fun i o' ho' hg=>?_,fun i o' ho' hf hg hv=>?_⟩
  ·refine hfr b (hb.elim (hok.S_lt b) (hok.F_lt b)) fun i o0 _ h1 h2=>?_
   have:=hok.at_lt h1 h2
   exact hb.elim this.2.1 this.2.2
  ·rcases Dt ho' with ⟨rfl,rfl,h1,h2⟩ | ⟨_,_,h1,h2,h3⟩
   ·obtain ⟨o0,e1,e2,e3,e4⟩:=hold hg
    exact ⟨o0,e1,e2,e3,by rw [h1]; exact e4⟩
   ·exact ⟨o',h1,rfl,rfl,h2⟩
  ·rcases Dt ho' with ⟨rfl,rfl,h1,h2⟩ | ⟨_,_,h1,h2,h3⟩
   ·obtain ⟨o0,e1,e0,e2,e3,e4,e5⟩:=hfl hf hg hv
    exact ⟨o0,e1,e0,e2,e3,e4,by rw [h2]; exact e5⟩
   ·exact ⟨o',h1,hf,rfl,rfl,rfl,h3⟩
 have hblk' : ∀ i o',i≠id→i≠id'→x.H i=some o' → ∀ b,x.at i b→w'.heap[b]? = x.w.heap[b]?:=by
  intro i o' hne hne' hi b hb
  refine hfr b (hok.at_lt hi hb).1 fun i0 o0 h0 h1 h2=>?_
  have:=hok.at_inj hi h1 hb h2
  subst this
  exact h0.elim hne hne'
 refine ⟨hle,fun b hb=>Nat.lt_of_lt_of_le (hok.S_lt b hb) hsize,fun b hb=>Nat.lt_of_lt_of_le (hok.F_lt b hb) hsize,hok.SF,fun i o' ho'=>?_,fun i o' b k ho' hb=>?_,fun i i' o1 o2 b k k' h1 h2 hb hb'=>?_,fun i o' j b c ho' hb=>?_,hok.tabs.le hle⟩
 ·rcases Dt ho' with ⟨rfl,rfl,h1,h2⟩ | ⟨hne,hne',h1,h2,h3⟩
  ·rw [h1,h2]; exact ⟨hgen,hrep hle⟩
  ·rw [h2,h3]
   obtain ⟨e1,e2⟩:=hok.obj i o' h1
   exact ⟨Nat.lt_of_lt_of_le e1 hn,e2.mono hle (fun b k hb=>hblk' i o' hne hne' h1 b (.inl ⟨k,hb⟩)) fun j b k hb=>hblk' i o' hne hne' h1 b (.inr ⟨j,k,hb⟩)⟩
 ·rcases Dt ho' with ⟨rfl,rfl,h1,h2⟩ | ⟨hne,hne',h1,h2,h3⟩
  ·rw [h1] at hb
   obtain ⟨e1,e2⟩:=hβ b k hb
   exact ⟨e1,(hnew b e2).1⟩
  ·rw [h2] at hb
   have:=hok.own i o' b k h1 hb
   exact ⟨Nat.lt_of_lt_of_le this.1 hsize,this.2⟩
 ·rcases Dt h1 with ⟨rfl,rfl,e1,e2⟩ | ⟨hne,hne',e0,e1,e2⟩ <;> rcases Dt h2 with ⟨rfl,rfl,f1,f2⟩ | ⟨gne,gne',f0,f1,f2⟩
  ·rfl
  ·rw [e1] at hb; rw [f1] at hb'
   exact ((hnew b (hβ b k hb).2).2 i' o2 gne gne' f0 (.inl ⟨k',hb'⟩)).elim
  ·rw [e1] at hb; rw [f1] at hb'
   exact ((hnew b (hβ b k' hb').2).2 i o1 hne hne' e0 (.inl ⟨k,hb⟩)).elim
  ·rw [e1] at hb; rw [f1] at hb'
   exact hok.inj i i' o1 o2 b k k' e0 f0 hb hb'
 ·rcases Dt ho' with ⟨rfl,rfl,e1,e2⟩ | ⟨hne,hne',e0,e1,e2⟩
  ·rw [e2] at hb
   obtain ⟨⟨h1,h2⟩,h3,h4⟩:=hκ j b c hb
   refine ⟨h1,(hnew b h2).1.1,(hnew b h2).1.2,fun i' o2 k hi' hb'=>?_,fun i' o2 j' c' hi' hb'=>?_⟩
   ·rcases Dt hi' with ⟨rfl,rfl,f1,f2⟩ | ⟨gne,gne',f0,f1,f2⟩
    ·rw [f1] at hb'; exact h3 k hb'
    ·rw [f1] at hb'
     exact (hnew b h2).2 i' o2 gne gne' f0 (.inl ⟨k,hb'⟩)
   ·rcases Dt hi' with ⟨rfl,rfl,f1,f2⟩ | ⟨gne,gne',f0,f1,f2⟩
    ·rw [f2] at hb'; exact ⟨rfl,h4 j' c' hb'⟩
    ·rw [f2] at hb'
     exact ((hnew b h2).2 i' o2 gne gne' f0 (.inr ⟨j',c',hb'⟩)).elim
  ·rw [e2] at hb
   obtain ⟨h1,h2,h3,h4,h5⟩:=hok.ext i o' j b c e0 hb
   refine ⟨Nat.lt_of_lt_of_le h1 hsize,h2,h3,fun i' o2 k hi' hb'=>?_,fun i' o2 j' c' hi' hb'=>?_⟩
   ·rcases Dt hi' with ⟨rfl,rfl,f1,f2⟩ | ⟨gne,gne',f0,f1,f2⟩
    ·rw [f1] at hb'
     exact (hnew b (hβ b k hb').2).2 i o' hne hne' e0 (.inr ⟨j,c,hb⟩)
    ·rw [f1] at hb'
     exact h4 i' o2 k f0 hb'
   ·rcases Dt hi' with ⟨rfl,rfl,f1,f2⟩ | ⟨gne,gne',f0,f1,f2⟩
    ·rw [f2] at hb'
     exact ((hnew b (hκ j' b c' hb').1.2).2 i o' hne hne' e0 (.inr ⟨j,c,hb⟩)).elim
    ·rw [f2] at hb'
     exact h5 i' o2 j' c' f0 hb'
theorem RP (id id':Nat) (ob:AY) (h:AZ):(fun i=>if id=i then some ob else if id'=i then none else hget h i)=hget ((id,some ob) :: (id',none) :: h):=by
 funext i
 rw [BM,BM]
end Go.Proofs.Ytelkfhdgmbahgaa.Al

namespace Go.Proofs.Ytelkfhdgmbahgaa.Al
section
variable {P:Program} {ops:Array Oper} {md:Region.Mode} {Q:Exit→Act→World→Prop} {S:World→Prop}
def FT (P:Program) (md:Region.Mode) (ops:Array Oper) (Q:Exit→Act→World→Prop) (S:World→Prop) (L:Array Bool→Act→World→Prop):Nat→Array Bool→Act→World→Prop
 | 0,listed,a,w=>L listed a w
 | f+1,listed,a,w=>Region.ready md ops listed≠[] ∧ ∀ i∈Region.ready md ops listed,wpOp P ops Q i (fun a' w'=>S w'∧FT P md ops Q S L f (listed.setIfInBounds i true) a' w') a w
theorem Mc {g:Nat} {L:Array Bool→Act→World→Prop} (hL : ∀ listed a w,L listed a w→wpAny P md ops Q g listed a w) :
  ∀ (f:Nat) (listed:Array Bool) (a:Act) (w:World),FT P md ops Q S L f listed a w→wpAny P md ops Q (f+g) listed a w
 | 0,listed,a,w,h=>by rw [Nat.zero_add]; exact hL _ _ _ h
 | f+1,listed,a,w,h=>by
  rw [show f+1+g=(f+g)+1 by omega]
  exact ⟨fun h0=>absurd h0 h.1,fun i hi=>wpOp_mono (fun a' w' h'=>Mc hL f _ a' w' h'.2) (h.2 i hi)⟩
structure HI (md:Region.Mode) (ops:Array Oper) (n:Nat) (l0 listed:Array Bool):Prop where
 size:listed.size=ops.size
 closed : ∀ j oj,ops[j]? = some oj→listed.getD j false=true→l0.getD j false=true ∨ ∀ e∈oj.after,Region.binds md e=true→listed.getD e.on false=true
 tail : ∀ t,n≤t→t<ops.size→listed.getD t true=false
 mono : ∀ j,l0.getD j false=true→listed.getD j false=true
theorem HI.set {n i:Nat} {l0 listed:Array Bool} (inv:HI md ops n l0 listed) (hi:i∈Region.ready md ops listed) (hin:i<n):HI md ops n l0 (listed.setIfInBounds i true):=by
 obtain ⟨_,oi,hoi,hall⟩:=mem_ready.1 hi
 refine ⟨by simp [inv.size],fun j oj hj hl=>?_,fun t ht ht'=>by rw [getD_set_ne true (by omega)]; exact inv.tail t ht ht',fun j hj=>getD_set_true (inv.mono j hj)⟩
 by_cases hij:i=j
 ·subst hij
  have:oj=oi:=Option.some.inj (hj.symm.trans hoi)
  subst this
  exact .inr fun e he hb=>getD_set_true (hall e he hb)
 ·rw [getD_set_ne false hij] at hl
  rcases inv.closed j oj hj hl with h | h
  ·exact .inl h
  ·exact .inr fun e he hb=>getD_set_true (h e he hb)
def Ib (md:Region.Mode) (ops:Array Oper) (n:Nat) (l0:Array Bool):Bool:=
 (List.range n).all fun i=>l0.getD i false || (List.range (n+1)).any fun j=>decide (i<j) && !l0.getD j false && Region.waitsFor md ops j i
theorem LQ {n:Nat} {l0 listed:Array Bool} (hs:Ib md ops n l0=true) (hc:Region.chainB md ops n=true) (hn:n<ops.size) (inv:HI md ops n l0 listed) :
  ∀ (d i:Nat),n-i=d→i<n→listed.getD i true=false → ∀ t,n≤t→t ∉ Region.ready md ops listed:=by
 intro d
 induction d using Nat.strongRecOn with
 | _ d ih=>
  intro i hd hi hun t ht hr
  obtain ⟨_,ot,hot,hall⟩:=mem_ready.1 hr
  have htlt:t<ops.size:=(Array.getElem?_eq_some_iff.1 hot).1
  by_cases htn:t=n
  ·subst htn
   have h1:=List.all_eq_true.1 hs i (List.mem_range.2 hi)
   rw [Bool.or_eq_true] at h1
   rcases h1 with h1 | h1
   ·have:=inv.mono i h1
    rw [getD_both hun] at this; cases this
   obtain ⟨j,hj,hj2⟩:=List.any_eq_true.1 h1
   simp only [Bool.and_eq_true,decide_eq_true_eq,Bool.not_eq_true'] at hj2
   obtain ⟨oj,hoj,e,he,hb,hon⟩:=Region.waitsFor_spec hj2.2
   have hjle:j≤t:=by have:=List.mem_range.1 hj; omega
   by_cases hjt:j=t
   ·subst hjt
    have:oj=ot:=Option.some.inj (hoj.symm.trans hot)
    subst this
    have h2:=hall e he hb
    rw [hon,getD_both hun] at h2
    cases h2
   ·cases hl:listed.getD j false with
    | true=>
     rcases inv.closed j oj hoj hl with h3 | h3
     ·rw [h3] at hj2; cases hj2.1.2
     ·have h2:=h3 e he hb
      rw [hon,getD_both hun] at h2
      cases h2
    | false=>
     have hjs:j<listed.size:=by rw [inv.size]; omega
     exact ih (t-j) (by omega) j rfl (by omega) (getD_in hjs hl) t (Nat.le_refl _) hr
  ·have h1:=List.all_eq_true.1 hc t (List.mem_range.2 htlt)
   simp only [Bool.or_eq_true,decide_eq_true_eq] at h1
   rcases h1 with h1 | h1
   ·omega
   ·obtain ⟨o',ho',e,he,hb,hon⟩:=Region.waitsFor_spec h1
    have:o'=ot:=Option.some.inj (ho'.symm.trans hot)
    subst this
    have h2:=hall e he hb
    rw [hon,getD_both (inv.tail (t-1) (by omega) (by omega))] at h2
    cases h2
theorem QR {n i:Nat} {oi:Oper} {v:Value} {l0:Array Bool} {L:Array Bool→Act→World→Prop} (hi:ops[i]? = some oi) (hsel : ∀ (j:Nat) (o:Oper) cs b,ops[j]? = some o→o.op ≠ .select cs b)
  (hQ : ∀ c a w,Q (.panic c) (a.put oi.dst v) w→Q (.panic c) a w) (hs:Ib md ops n l0=true) (hc:Region.chainB md ops n=true) (hn:n<ops.size) (hin:i<n)
  (hdone : ∀ listed a w,L listed a w → ∀ j∈Region.ready md ops listed,n≤j) :
  ∀ (f:Nat) (listed:Array Bool) (a:Act) (w:World),HI md ops n l0 listed →
   (∀ j oj,ops[j]? = some oj→j≠i→listed.getD j true=false→(∀ e∈oj.after,Region.binds md e=true→e.on≠i)→oi.apart ops oj=true) →
   i∈Region.ready md ops listed→YieldsIf P ops S oi v a→S w →
   FT P md ops Q S L f (listed.setIfInBounds i true) (a.put oi.dst v) w→FT P md ops Q S L (f+1) listed a w:=by
 intro f
 induction f with
 | zero=>
  intro listed a w inv _ hr hy hS H
  have hun:=(mem_ready.1 hr).1
  refine ⟨fun h=>(by rw [h] at hr; cases hr),fun j hj=>?_⟩
  have hjn:j<n:=by
   rcases Nat.lt_or_ge j n with h | h
   ·exact h
   ·exact absurd hj (LQ hs hc hn inv _ i rfl hin hun j h)
  by_cases hji:j=i
  ·subst hji; exact hy.wpOp hi hS ⟨hS,H⟩
  ·have:=hdone _ _ _ H j (ready_mono hj hji)
   omega
 | succ f ih=>
  intro listed a w inv hfree hr hy hS H
  have hun:=(mem_ready.1 hr).1
  refine ⟨fun h=>(by rw [h] at hr; cases hr),fun j hj=>?_⟩
  have hjn:j<n:=by
   rcases Nat.lt_or_ge j n with h | h
   ·exact h
   ·exact absurd hj (LQ hs hc hn inv _ i rfl hin hun j h)
  by_cases hji:j=i
  ·subst hji; exact hy.wpOp hi hS ⟨hS,H⟩
  ·have h1:=H.2 j (ready_mono hj hji)
   obtain ⟨hjun,oj,hoj,hall⟩:=mem_ready.1 hj
   have hnot : ∀ e∈oj.after,Region.binds md e=true→e.on≠i:=fun e he hb heq=>by
    have h1:=hall e he hb
    rw [heq,getD_both hun] at h1
    cases h1
   have h2:=wpOp_putIf hoj (hfree j oj hoj hji hjun hnot) (fun cs b=>hsel i oi cs b hi) (fun cs b=>hsel j oj cs b hoj) hQ hy h1
   have hfree' : ∀ k ok,ops[k]? = some ok→k≠i→(listed.setIfInBounds j true).getD k true=false →
     (∀ e∈ok.after,Region.binds md e=true→e.on≠i)→oi.apart ops ok=true:=fun k ok hk hki hun hno=>by
    refine hfree k ok hk hki ?_ hno
    by_cases hjk:j=k
    ·subst hjk; exact hjun
    ·rw [getD_set_ne true hjk] at hun; exact hun
   refine wpOp_mono (fun a' w' h3=>⟨h3.2.1,ih (listed.setIfInBounds j true) a' w' (inv.set hj hjn) hfree' (ready_mono hr (Ne.symm hji)) h3.1 h3.2.1 ?_⟩) h2
   rw [Array.setIfInBounds_comm _ _ hji]
   exact h3.2.2
def Fv (md:Region.Mode) (ops:Array Oper):List Nat→Array Bool→Bool
 | [],_=>true
 | i :: is,listed=>(Region.ready md ops listed).contains i && Region.free md ops listed i && Fv md ops is (listed.setIfInBounds i true)
def JC (md:Region.Mode) (ops:Array Oper):List Nat→Array Bool→Bool
 | [],_=>true
 | i :: is,listed=>decide (Region.ready md ops listed=[i]) && JC md ops is (listed.setIfInBounds i true)
def Bz (listed:Array Bool) (is:List Nat):Array Bool:=is.foldl (fun l i=>l.setIfInBounds i true) listed
def Gn (P:Program) (ops:Array Oper) (S:World→Prop) (Qa:Act→Prop):List Oper→Act→Prop
 | [],a=>Qa a
 | o :: rest,a=>∃ v,YieldsIf P ops S o v a∧Gn P ops S Qa rest (a.put o.dst v)
def KL (P:Program) (ops:Array Oper) (Q:Exit→Act→World→Prop) (S:World→Prop) (Qa:Act→World→Prop):List Oper→Act→World→Prop
 | [],a,w=>Qa a w
 | o :: rest,a,w=>o.guard=none∧o.wp P a w (fun a' w'=>S w'∧KL P ops Q S Qa rest a' w') Q
def Jl (Q:Exit→Act→World→Prop):Prop:=∀ c a w,¬ Q (.panic c) a w
theorem Ly (hsel:Region.noSelect ops=true) (hQ:Jl Q) {f:Nat} : ∀ (is:List Nat) (l:List Oper) (listed:Array Bool) (a:Act) (w:World),is.map (fun i=>ops[i]?)=l.map some→Fv md ops is listed=true →
  Gn P ops (fun _=>True) (fun a'=>wpAny P md ops Q f (Bz listed is) a' w) l a→wpAny P md ops Q (f+is.length) listed a w
 | [],[],listed,a,w,_,_,h=>h
 | [],_ :: _,_,_,_,h,_,_=>by cases h
 | _ :: _,[],_,_,_,h,_,_=>by cases h
 | i :: is,o :: l,listed,a,w,hl,hB,⟨v,hy,h⟩=>by
  simp only [Fv,Bool.and_eq_true] at hB
  obtain ⟨⟨hr,hf⟩,hB'⟩:=hB
  simp only [List.map_cons,List.cons.injEq] at hl
  have:=Ly hsel hQ is l (listed.setIfInBounds i true) (a.put o.dst v) w hl.2 hB' h
  rw [List.length_cons,← Nat.add_assoc]
  refine wpAny_take hl.1 hsel hf hr (fun c a w h=>absurd h (hQ _ _ _)) ?_ this
  exact hy.imp (fun ⟨hw,hv⟩=>⟨hw,fun w=>hv w trivial⟩) id
theorem NW {n:Nat} {l0:Array Bool} {L:Array Bool→Act→World→Prop} : ∀ (is:List Nat) (l:List Oper) (listed:Array Bool) (a:Act) (w:World),is.map (fun i=>ops[i]?)=l.map some→JC md ops is listed=true →
  KL P ops Q S (fun a' w'=>L (Bz listed is) a' w') l a w→FT P md ops Q S L is.length listed a w
 | [],[],listed,a,w,_,_,h=>h
 | [],_ :: _,_,_,_,h,_,_=>by cases h
 | _ :: _,[],_,_,_,h,_,_=>by cases h
 | i :: is,o :: l,listed,a,w,hl,hB,⟨hg,h⟩=>by
  simp only [JC,Bool.and_eq_true,decide_eq_true_eq] at hB
  simp only [List.map_cons,List.cons.injEq] at hl
  refine ⟨by rw [hB.1]; simp,fun j hj=>?_⟩
  rw [hB.1] at hj
  have:j=i:=by simpa using hj
  subst this
  unfold wpOp
  simp only [hl.1]
  rw [if_pos (by simp [Region.wanted,hg])]
  exact .inl (Oper.wp_mono (fun a' w' h'=>⟨h'.1,NW (n:=n) (l0:=l0) is l _ a' w' hl.2 hB.2 h'.2⟩) h)
theorem L3 {n:Nat} {l0:Array Bool} {L:Array Bool→Act→World→Prop} {f:Nat} (hsel:Region.noSelect ops=true) (hQ:Jl Q) (hs:Ib md ops n l0=true) (hc:Region.chainB md ops n=true) (hn:n<ops.size)
  (hdone : ∀ listed a w,L listed a w → ∀ j∈Region.ready md ops listed,n≤j) {w:World} (hS:S w) : ∀ (is:List Nat) (l:List Oper) (listed:Array Bool) (a:Act),is.map (fun i=>ops[i]?)=l.map some→Fv md ops is listed=true →
  (∀ i∈is,i<n)→HI md ops n l0 listed →
  Gn P ops S (fun a'=>FT P md ops Q S L f (Bz listed is) a' w) l a→FT P md ops Q S L (f+is.length) listed a w
 | [],[],listed,a,_,_,_,_,h=>h
 | [],_ :: _,_,_,h,_,_,_,_=>by cases h
 | _ :: _,[],_,_,h,_,_,_,_=>by cases h
 | i :: is,o :: l,listed,a,hl,hB,hin,inv,⟨v,hy,h⟩=>by
  simp only [Fv,Bool.and_eq_true] at hB
  obtain ⟨⟨hr,hf⟩,hB'⟩:=hB
  simp only [List.map_cons,List.cons.injEq] at hl
  have hr':i∈Region.ready md ops listed:=by simpa using hr
  have hi':=hin i (List.mem_cons_self ..)
  have:=L3 hsel hQ hs hc hn hdone hS is l (listed.setIfInBounds i true) (a.put o.dst v) hl.2 hB' (fun j hj=>hin j (List.mem_cons_of_mem _ hj)) (inv.set hr' hi') h
  rw [List.length_cons,← Nat.add_assoc]
  exact QR hl.1 (Region.noSelect_spec hsel) (fun c a w h=>absurd h (hQ _ _ _)) hs hc hn hi' hdone _ listed a w inv (Region.free_spec hl.1 hf) hr' hy hS this
end
open Go.ChangeShapes Go.WideShapes Go.Deep Go.WideElems Go.RowKit
section
variable {H:Type} {enc:TypeId × Value→H} {P:Program} {W:World}
end
end Go.Proofs.Ytelkfhdgmbahgaa.Al

namespace Go.Proofs.Ytelkfhdgmbahgaa.Al
section
variable {P:Program} {ops:Array Oper} {rest:List Oper} {s:St} {K:St→Prop} {o:Oper}
def DH (P:Program) (ops:Array Oper) (rest:List Oper) (s:St) (K:St→Prop):Prop:=
 ∀ (y:Cx) (a:Act),y.ok→y.H=hget s.h→y.n=s.n→a.tmps.size=s.N→BE y s.e a → ∀ Qa:Act→Prop,
  (∀ s' a',K s'→s'.h=s.h→s'.n=s.n→s'.N=s.N→a'.tmps.size=s.N→a'.defers=a.defers→BE y s'.e a'→Qa a')→Gn P ops (fun _=>True) Qa rest a
theorem DH.nil (h:K s):DH P ops [] s K:=fun _ a _ _ _ hN he _ hQ=>hQ s a h rfl rfl rfl hN rfl he
theorem DH.move {d:Nat} {x:Operand} (hg:o.guard=none) (ho:o.op = .move x) (hd:o.dst=some d) (hN:Nat.blt d s.N=true)
  (hr:DH P ops rest { e:=(d,Df s.e x) :: s.e,h:=s.h,n:=s.n,N:=s.N } K):DH P ops (o :: rest) s K:=by
 intro y a hok hH hn hsz he Qa hQ
 have hN':d<a.tmps.size:=by rw [hsz]; exact Bd hN
 refine ⟨a.eval x,.inl ⟨by simp [Region.wanted,hg],fun w _=>by unfold execOp; simp only [ho]; rfl⟩,?_⟩
 rw [hd]
 exact hr y (a.put (some d) (a.eval x)) hok hH hn (by simpa [Act.put] using hsz) (he.put hN' (he.eval x)) Qa fun s' a' k1 k2 k3 k4 k5 k6 k7=>hQ s' a' k1 k2 k3 k4 k5 k6 k7
def AF (P:Program) (ops:Array Oper) (rest:List Oper) (s:St) (K:St→Prop):Prop:=
 ∀ (y:Cx) (a:Act),y.ok→y.H=hget s.h→y.n=s.n→a.tmps.size=s.N→BE y s.e a → ∀ Qa:Act→Prop,
  (∀ s' a',K s'→s'.h=s.h→s'.n=s.n→s'.N=s.N→a'.tmps.size=s.N→a'.defers=a.defers→BE y s'.e a'→Qa a')→Gn P ops (Bo y) Qa rest a
theorem AF.nil (h:K s):AF P ops [] s K:=fun _ a _ _ _ hN he _ hQ=>hQ s a h rfl rfl rfl hN rfl he
theorem AF.step {d:Nat} {v:AV} (hg:o.guard=none) (hd:o.dst=some d) (hN:Nat.blt d s.N=true) (hs:AC P true o s.e s.h v)
  (hr:AF P ops rest { e:=(d,v) :: s.e,h:=s.h,n:=s.n,N:=s.N } K):AF P ops (o :: rest) s K:=by
 intro y a hok hH hn hsz he Qa hQ
 obtain ⟨u,hrun,hv⟩:=hs rfl y a hok hH he
 have hN':d<a.tmps.size:=by rw [hsz]; exact Bd hN
 refine ⟨u,.inl ⟨by simp [Region.wanted,hg],hrun⟩,?_⟩
 rw [hd]
 exact hr y (a.put (some d) u) hok hH hn (by simpa [Act.put] using hsz) (he.put hN' hv) Qa fun s' a' k1 k2 k3 k4 k5 k6 k7=>hQ s' a' k1 k2 k3 k4 k5 k6 k7
def IJ (P:Program) (o:Oper) (R:Aj) (h:AZ) (n:Nat) (v:AV) (h':AZ) (n':Nat):Prop:=
 ∀ (x:Cx) (a:Act),x.ok→x.H=hget h→x.n=n→BE x R a → ∀ (K:Act→World→Prop) (Q:Exit→Act→World→Prop),
  (∀ (u:Value) (y:Cx),x.le y→y.ok→y.H=hget h'→y.n=n'→AS y v u→(∀ b,b<x.w.heap.size→y.w.heap[b]? = x.w.heap[b]?)→K (a.put o.dst u) y.w)→o.wp P a x.w K Q
def AA (P:Program) (ops:Array Oper) (rest:List Oper) (s:St) (K:St→Prop):Prop:=
 ∀ (y0 y:Cx) (a:Act),y0.ok→y0.le y→Bo y0 y.w→y.ok→y.H=hget s.h→y.n=s.n→a.tmps.size=s.N→BE y s.e a → ∀ (Q:Exit→Act→World→Prop) (Qa:Act→World→Prop),
  (∀ s' a' y',K s'→y0.le y'→y'.ok→y'.H=hget s'.h→y'.n=s'.n→s'.N=s.N→a'.tmps.size=s.N→a'.defers=a.defers→BE y' s'.e a'→Qa a' y'.w)→KL P ops Q (Bo y0) Qa rest a y.w
theorem AA.nil (h:K s):AA P ops [] s K:=fun _ y a _ hle _ hok hH hn hN he _ _ hQ=>hQ s a y h hle hok hH hn rfl hN rfl he
theorem AA.step {d:Nat} {v:AV} {h':AZ} {n':Nat} (hg:o.guard=none) (hd:o.dst=some d) (hN:Nat.blt d s.N=true) (hs:IJ P o s.e s.h s.n v h' n')
  (hr:AA P ops rest { e:=(d,v) :: s.e,h:=h',n:=n',N:=s.N } K):AA P ops (o :: rest) s K:=by
 intro y0 y a hok0 hle hag hok hH hn hsz he Q Qa hQ
 have hN':d<a.tmps.size:=by rw [hsz]; exact Bd hN
 refine ⟨hg,hs y a hok hH hn he _ _ fun u y' k1 k2 k3 k4 k5 k6=>?_⟩
 have hag':Bo y0 y'.w:=by
  intro b hb
  have hlt:b<y0.w.heap.size:=by
   rcases hb with hb | ⟨id,o,k,h1,h2⟩
   ·exact hok0.S_lt b hb
   ·exact (hok0.own' id o b k h1 h2).1
  rw [k6 b (Nat.lt_of_lt_of_le hlt hle.size)]
  exact hag b hb
 refine ⟨hag',?_⟩
 rw [hd]
 exact hr y0 y' (a.put (some d) u) hok0 (hle.trans k1) hag' k2 k3 k4 (by simpa [Act.put] using hsz) ((he.mono k1).put hN' k5) Q Qa fun s' a' y' j1 j2 j3 j4 j5 j6 j7 j8=>hQ s' a' y' j1 j2 j3 j4 j5 j6 j7 j8
def Ka (ops:Array Oper) (fl hq al:List Nat) (n:Nat):Bool:=
 let r0:=Array.replicate ops.size false
 let l0:=Bz r0 fl
 let l1:=Bz l0 hq
 let l2:=Bz l1 al
 Region.noSelect ops && decide (n<ops.size) && Ib .any ops n l0 && Region.chainB .any ops n && Fv .any ops fl r0 && Fv .any ops hq l0 && JC .any ops al l1
  && Region.seqB .any ops (ops.size-n) n l2 && decide (fl.length+hq.length+al.length=n) && (hq.all fun i=>decide (i<n)) && ((List.range ops.size).all fun t=>decide (t<n) || !l0.getD t true)
theorem MD (is:List Nat) (l:Array Bool):(Bz l is).size=l.size:=by
 induction is generalizing l with
 | nil=>rfl
 | cons i is ih=>show (Bz (l.setIfInBounds i true) is).size=_; rw [ih]; simp
theorem MY (y:Cx):Bo y y.w:=fun _ _=>rfl
theorem Sh {id:Nat} {l:List Oper} {Q:Exit→St→Prop} (fl hq al:List Nat) (n:Nat) {lf lh la lt:List Oper} (hm:P.follows .mixedOrders=true) (hB:Ka l.toArray fl hq al n=true)
  (e1:fl.map (fun i=>l.toArray[i]?)=lf.map some) (e2:hq.map (fun i=>l.toArray[i]?)=lh.map some) (e3:al.map (fun i=>l.toArray[i]?)=la.map some) (e4:l.drop n=lt)
  (h:DH P l.toArray lf s fun s1=>AF P l.toArray lh s1 fun s2=>AA P l.toArray la s2 fun s3=>AB P l.toArray lt s3 (Q .normal)):AW P (.region id l.toArray true) Q s:=by
 intro z0 hz0 c0 a w ⟨_,hdef,hsz,y,hyw,hle,hok,hH,hn,he⟩
 subst hyw
 obtain ⟨r1,r2⟩:=LB hok
 simp only [Ka,Bool.and_eq_true,decide_eq_true_eq] at hB
 obtain ⟨⟨⟨⟨⟨⟨⟨⟨⟨⟨b1,b2⟩,b3⟩,b4⟩,b5⟩,b6⟩,b7⟩,b8⟩,b9⟩,b10⟩,b11⟩:=hB
 refine wpIn_mono (Q:=fun e a' w'=>e = .normal ∧ ∃ s',Q .normal s'∧Co c0 s' a' w') ?_ fun e a' w' ⟨k1,k2⟩=>by subst k1; exact ⟨by simp,k2⟩
 refine JO (fun hlo=>by obtain ⟨_,_,h1,_⟩:=hlo; cases h1) hm hz0 ?_
 have hQ:Jl (fun (e:Exit) (a':Act) (w':World)=>e = .normal ∧ ∃ s',Q .normal s'∧Co c0 s' a' w'):=fun c a w h=>by cases h.1
 generalize hz:({ y with w:={ y.w with drawn:=y.w.drawn+1 } } : Cx)=z at r1 r2
 have hzw:z.w = { y.w with drawn:=y.w.drawn+1 }:=by rw [← hz]
 have hzH:z.H=hget s.h:=by rw [← hz]; exact hH
 have hzn:z.n=s.n:=by rw [← hz]; exact hn
 rw [← hzw]
 have hsize:l.toArray.size=(l.toArray.size-n)+al.length+hq.length+fl.length:=by omega
 have goal:=Ly (P:=P) (md:=.any) (f:=(l.toArray.size-n)+al.length+hq.length) b1 hQ fl lf (Array.replicate l.toArray.size false) a z.w e1 b5
  (h z a r2 hzH hzn hsz (he.mono r1) _ fun s1 a1 k1 k2 k3 k4 k5 k6 k7=>by
   rw [show l.toArray.size-n+al.length+hq.length=(al.length+hq.length)+(l.toArray.size-n) by omega]
   refine Mc (S:=Bo z) (L:=fun listed a' w'=>listed=Bz (Bz (Bz (Array.replicate l.toArray.size false) fl) hq) al∧wpList P l.toArray (fun e a' w'=>e = .normal ∧ ∃ s',Q .normal s'∧Co c0 s' a' w') lt a' w') (fun listed a' w' ⟨q1,q2⟩=>?_) _ _ _ _ ?_
   ·subst q1; subst e4
    have hdl:(l.drop n).length=l.toArray.size-n:=by simp
    have:=wpAny_of_seq (md:=.any) (l.drop n) n _ a' w' (fun j=>by simp [List.getElem?_drop]) (by rw [hdl]; exact b8) q2
    rwa [hdl] at this
   ·refine L3 (n:=n) (l0:=Bz (Array.replicate l.toArray.size false) fl) b1 hQ b3 b4 b2 (fun listed a' w' ⟨q1,_⟩ j hj=>by subst q1; exact seqB_ready b8 j hj) (MY z) hq lh _ a1 e2 b6
     (fun i hi=>by simpa using (List.all_eq_true.1 b10 i hi)) ⟨by rw [MD]; simp,fun j oj _ hl=>.inl hl,fun t ht htl=>?_,fun _ h=>h⟩ ?_
    ·have:=List.all_eq_true.1 b11 t (List.mem_range.2 htl)
     simp only [Bool.or_eq_true,decide_eq_true_eq,Bool.not_eq_true'] at this
     rcases this with h | h
     ·omega
     ·exact h
    ·refine k1 z a1 r2 (by rw [k2]; exact hzH) (by rw [k3]; exact hzn) (by rw [k4,k5]) k7 _ fun s2 a2 m1 m2 m3 m4 m5 m6 m7=>?_
     refine NW (n:=n) (l0:=Bz (Array.replicate l.toArray.size false) fl) al la _ a2 z.w e3 b7 ?_
     refine m1 z z a2 r2 (.refl z) (MY z) r2 (by rw [m2,k2]; exact hzH) (by rw [m3,k3]; exact hzn) (by rw [m4,m5]) m7 _ _ fun s3 a3 y3 t1 t2 t3 t4 t5 t6 t7 t8 t9=>⟨rfl,?_⟩
     exact t1 c0 a3 y3.w ⟨_,t8.trans (m6.trans (k6.trans hdef)),by rw [t7,t6],y3,rfl,(hle.trans r1).trans t2,t3,t4,t5,t9⟩ _ fun s'' a'' w'' j1 j2=>⟨rfl,s'',j1,j2⟩)
 have e:l.toArray.size-n+al.length+hq.length+fl.length=l.toArray.size:=by omega
 rw [e] at goal
 exact goal
end
section
variable {P:Program} {o:Oper} {R:Aj} {h:AZ} {n:Nat}
theorem QM {t e:TypeId} {sz by_ len:Nat} {parts:Array (Nat × Operand)} (id:Nat) {rows:List (List RV)} (ho:o.op = .buildSlice t len parts) (ht:Bk P t e sz by_)
  (hp:Fd true R 0 parts.toList rows) (hlen:rows.length=len) (hrow : ∀ row∈rows,row.length=sz) (hsmall:Nat.ble (len * sz) 16777216=true) :
  IJ P o R h n (.own id n) ((id,some (.arr n e sz rows)) :: h) (n+1):=by
 intro z w hok hH hn he K Q hK
 have hc:true=true:=rfl
 obtain ⟨ht1,ii,zv,hi,hisz,_,hz,hzs,_,h0⟩:=ht
 have hsm:len * sz≤16777216:=Nat.le_of_ble_eq_true hsmall
 have hlm:len≤len * sz:=Nat.le_mul_of_pos_right _ h0
 obtain ⟨hpl,hpg⟩:=hp.get
 have hinit : ∃ init:Array Value,init.size=len * sz ∧ ∀ W,(Instr.buildSlice t len (parts.map fun (i,x)=>(i,w.eval x))).run P W =
   match Instr.fill (fun i=>some (i * sz,sz)) init (parts.toList.map fun (i,x)=>(i,w.eval x)) with
   | some cells=>.ok (.slice (some ⟨W.heap.size,0,none⟩) len len) (W.alloc (.cells cells e))
   | none => .halt (.stuck "buildSlice: a part of the wrong size") W := by
  refine ⟨(Array.range (len * sz)).map (fun i=>(if len * sz=0 then #[] else zv.cells)[i % (if len * sz=0 then #[] else zv.cells).size]!),by simp,fun W=>?_⟩
  have hnot : ¬ 2 ^ 24<len * sz:=by omega
  by_cases hl0:len * sz=0
  ·simp only [Instr.buildSlice,Sem.run_bind,run_underlying ht1,Result.andThen_ok,C1 hi,hisz,hl0]
   simp
   split <;> simp_all [newRow,Instr.fill]
  ·simp only [Instr.buildSlice,Sem.run_bind,run_underlying ht1,Result.andThen_ok,C1 hi,hisz]
   simp only [hnot,hl0,zeroValue,typeInfo,if_false,Sem.run_bind,run_program,Result.andThen_ok,hi,hz,Sem.run_pure,Array.toList_map]
   generalize Instr.fill _ _ _=r
   cases r <;> simp [newRow]
 obtain ⟨init,hisize,hrun⟩:=hinit
 obtain ⟨us',f1,f2,_,f4⟩:=KH sz (parts.toList.map fun (i,x)=>(i,w.eval x)) 0 init (fun j p hj=>by
  simp only [List.getElem?_map,Option.map_eq_some_iff] at hj
  obtain ⟨q,hq,rfl⟩:=hj
  obtain ⟨h1,row,a,h2,h3,h4⟩:=hpg j q hq
  refine ⟨by simpa using h1,?_⟩
  rw [(I3 h4 (h3.rep he hc)).1]
  exact hrow row (List.mem_of_getElem? h2)) (by rw [hisize]; simp only [List.length_map,hpl,hlen,Nat.zero_add]; exact Nat.le_refl _)
 obtain ⟨y,k1,k2,k3,k4,k5,k6⟩:=MC hok id e sz rows us' h0 hrow (by rw [f2,hisize,hlen]) (by unfold maxLen; omega) (fun i row k d h1 h2=>by
  have hi':i<parts.toList.length:=by rw [hpl]; exact (List.getElem?_eq_some_iff.1 h1).1
  obtain ⟨_,row',a,h3,h4,h5⟩:=hpg i _ (List.getElem?_eq_getElem hi')
  rw [h1] at h3; cases h3
  obtain ⟨u,h6,h7⟩:=(I3 h5 (h4.rep he hc)).2 k d h2
  refine ⟨u,?_,h7⟩
  have hk:k<sz:=by rw [← hrow row (List.mem_of_getElem? h1)]; exact (List.getElem?_eq_some_iff.1 h2).1
  have:=f4 i (parts.toList[i].1,w.eval parts.toList[i].2) k (by simp [List.getElem?_map,List.getElem?_eq_getElem hi']) hk
  rw [Nat.zero_add] at this
  rw [this]; exact h6)
 unfold Oper.wp execOp
 simp only [ho,Sem.run_bind,hrun,f1,Result.andThen_ok,Sem.run_pure]
 have:=hK _ y k1 k2 (by rw [k4,hH,hn,BV]) (by rw [k5,hn]) (by rw [← hn]; exact k6) (fun b hb=>by rw [k3]; exact heap_alloc_old _ _ hb)
 rw [k3,hlen] at this
 exact this
theorem OZ {α:Type} {f:α→List RV} {t e:TypeId} {sz by_ len:Nat} {parts:Array (Nat × Operand)} (id:Nat) {l:List α} (ho:o.op = .buildSlice t len parts) (ht:Bk P t e sz by_)
  (hp:Fd true R 0 parts.toList (l.map f)) (hlen:l.length=len) (hrow : ∀ a,(f a).length=sz) (hsmall:Nat.ble (len * sz) 16777216=true) :
  IJ P o R h n (.own id n) ((id,some (.arr n e sz (l.map f))) :: h) (n+1):=
 QM id ho ht hp (by rw [List.length_map]; exact hlen) (fun row hr=>by obtain ⟨a,_,rfl⟩:=List.mem_map.1 hr; exact hrow a) hsmall
end
end Go.Proofs.Ytelkfhdgmbahgaa.Al
namespace Go.Proofs.Ytelkfhdgmbahgaa.Al
def pick (l:List Oper):List Nat→List Oper
 | []=>[]
 | i :: is=>match l[i]? with
  | some o=>o :: pick l is
  | none=>pick l is
theorem KZ {l:List Oper} {is:List Nat} (h:(is.all fun i=>Nat.blt i l.length)=true):is.map (fun i=>l.toArray[i]?)=(pick l is).map some:=by
 induction is with
 | nil=>rfl
 | cons i is ih=>
  simp only [List.all_cons,Bool.and_eq_true] at h
  have hi:=Bd h.1
  rw [List.map_cons,ih h.2,pick,List.getElem?_eq_getElem hi]
  simp [hi]
theorem LD {P:Program} {s:St} {id:Nat} {l:List Oper} {Q:Exit→St→Prop} (fl hq al:List Nat) (n:Nat) {lf lh la lt:List Oper} (hm:P.follows .mixedOrders=true) (hB:Ka l.toArray fl hq al n=true)
  (hi:((fl++hq++al).all fun i=>Nat.blt i l.length)=true) (e1:pick l fl=lf) (e2:pick l hq=lh) (e3:pick l al=la) (e4:l.drop n=lt)
  (h:DH P l.toArray lf s fun s1=>AF P l.toArray lh s1 fun s2=>AA P l.toArray la s2 fun s3=>AB P l.toArray lt s3 (Q .normal)):AW P (.region id l.toArray true) Q s:=by
 subst e1; subst e2; subst e3
 simp only [List.all_append,Bool.and_eq_true] at hi
 exact Sh fl hq al n hm hB (KZ hi.1.1) (KZ hi.1.2) (KZ hi.2) e4 h
end Go.Proofs.Ytelkfhdgmbahgaa.Al
namespace Go.Proofs.Ytelkfhdgmbahgaa.Al
section
variable {P:Program} {o:Oper} {R:Aj} {h:AZ} {n:Nat}
theorem MA {t:TypeId} {x:Operand} {a:AV} (id:Nat) {cs:List AV} (ho:o.op = .box t x) (hx:Ev true R x a) (hcs:BD a=cs) (h1:cs.all AV.one=true):IJ P o R h n (.ptr id n 0 0) ((id,some (.box n t cs)) :: h) (n+1):=by
 subst hcs
 intro z w hok hH hn he K Q hK
 obtain ⟨y,k1,k2,k3,k4,k5,k6⟩:=Jb hok id t a (hx.rep he rfl) (fun b hb=>List.all_eq_true.1 h1 b hb)
 unfold Oper.wp execOp
 rw [ho]
 simp only [Instr.box,Sem.run_bind,JU,Result.andThen_ok,Sem.run_pure]
 have:=hK (.pointer (some ⟨z.w.heap.size,0,none⟩)) y k1 k2 (by rw [k4,hH,hn,BV]) (by rw [k5,hn]) (by rw [← hn]; exact k6) (fun b hb=>by rw [k3]; exact heap_alloc_old _ _ hb)
 rw [k3] at this
 exact this
end
structure PO where
 d:Option Nat
 v:(Nat→Nat)→AV
 hp:Option (Nat × ((Nat→Nat)→Option AY))
 dep:List Nat
def PO.wE (p:PO):Option (Nat × ((Nat→Nat)→AV)):=match p.d with | some d=>some (d,p.v) | none=>none
def PO.wH (p:PO):Option (Nat × ((Nat→Nat)→Option AY)):=p.hp
section
variable {α:Type} (wr:PO→Option (Nat × ((Nat→Nat)→α))) (D:Nat→Bool) (G:Nat→Nat)
def CP:List (Nat × α)→List PO→Nat→List (Nat × α)
 | e,[],_=>e
 | e,p :: L,k=>match D k with
  | true=>match wr p with
   | some (d,v)=>CP ((d,v G) :: e) L (k+1)
   | none=>CP e L (k+1)
  | false=>CP e L (k+1)
def D8 (t:Nat) (L:List PO) (k:Nat):Prop:=∀ (j:Nat) (p:PO) v,L[j]? = some p→D (k+j)=true→wr p≠some (t,v)
end
theorem D8.tail {α:Type} {wr:PO→Option (Nat × ((Nat→Nat)→α))} {D:Nat→Bool} {t:Nat} {p:PO} {L:List PO} {k:Nat} (h:D8 wr D t (p :: L) k):D8 wr D t L (k+1):=
 fun j q v h1 h2=>h (j+1) q v (by simpa using h1) (by rwa [show k+(j+1)=k+1+j by omega])
section
variable {α:Type} {wr:PO→Option (Nat × ((Nat→Nat)→α))} {D:Nat→Bool} {G:Nat→Nat} {lk:List (Nat × α)→Nat→α} (hlk : ∀ d v R t,lk ((d,v) :: R) t=if d=t then v else lk R t)
include hlk
theorem EZ {t:Nat} : ∀ (L:List PO) (e:List (Nat × α)) (k:Nat),D8 wr D t L k→lk (CP wr D G e L k) t=lk e t
 | [],_,_,_=>rfl
 | p :: L,e,k,h=>by
  unfold CP
  cases hD:D k with
  | false=>exact EZ L e (k+1) h.tail
  | true=>
   cases hw:wr p with
   | none=>exact EZ L e (k+1) h.tail
   | some q=>
    obtain ⟨d,v⟩:=q
    have hdt:d≠t:=fun e=>h 0 p v rfl hD (by rw [hw,e])
    exact (EZ L _ (k+1) h.tail).trans (by rw [hlk,if_neg hdt])
theorem FR {t:Nat} {p:PO} {v:(Nat→Nat)→α} (hw:wr p=some (t,v)) : ∀ (L:List PO) (e:List (Nat × α)) (k j:Nat),L[j]? = some p→D (k+j)=true→D8 wr D t (L.drop (j+1)) (k+j+1)→lk (CP wr D G e L k) t=v G
 | [],_,_,_,h,_,_=>by simp at h
 | q :: L,e,k,0,h1,h2,h3=>by
  cases h1
  unfold CP
  rw [show D k=true from h2,hw]
  exact (EZ hlk L _ (k+1) (by simpa using h3)).trans (by rw [hlk,if_pos rfl])
 | q :: L,e,k,j+1,h1,h2,h3=>by
  have h1':L[j]? = some p:=by simpa using h1
  have h2':D (k+1+j)=true:=by rwa [show k+1+j=k+(j+1) by omega]
  have h3':D8 wr D t (L.drop (j+1)) (k+1+j+1):=by rw [show k+1+j+1=k+(j+1)+1 by omega]; simpa using h3
  unfold CP
  cases D k with
  | false=>exact FR hw L e (k+1) j h1' h2' h3'
  | true=>
   cases wr q with
   | none=>exact FR hw L e (k+1) j h1' h2' h3'
   | some r=>exact FR hw L _ (k+1) j h1' h2' h3'
theorem Eb {t:Nat} {D':Nat→Bool} {G':Nat→Nat} : ∀ (L:List PO) (e e':List (Nat × α)) (k:Nat),lk e' t=lk e t →
  (∀ (j:Nat) (p:PO) v,L[j]? = some p→wr p=some (t,v)→D' (k+j)=D (k+j)∧(D (k+j)=true→v G'=v G))→lk (CP wr D' G' e' L k) t=lk (CP wr D G e L k) t
 | [],_,_,_,h,_=>h
 | p :: L,e,e',k,h,hw=>by
  have ht : ∀ (j:Nat) (q:PO) v,L[j]? = some q→wr q=some (t,v)→D' (k+1+j)=D (k+1+j)∧(D (k+1+j)=true→v G'=v G):=fun j q v h1 h2=>by
   have:=hw (j+1) q v (by simpa using h1) h2
   rwa [show k+(j+1)=k+1+j by omega] at this
  unfold CP
  cases hp:wr p with
  | none=>
   have ih:=Eb L e e' (k+1) h ht
   cases D' k <;> cases D k <;> exact ih
  | some q=>
   obtain ⟨d,v⟩:=q
   by_cases hdt:d=t
   ·subst hdt
    obtain ⟨h1,h2⟩:=hw 0 p v rfl hp
    rw [Nat.add_zero] at h1 h2
    rw [h1]
    cases hD:D k with
    | false=>exact Eb L e e' (k+1) h ht
    | true=>exact Eb L _ _ (k+1) (by rw [hlk,hlk,if_pos rfl,if_pos rfl,h2 hD]) ht
   ·have e1:lk ((d,v G') :: e') t=lk e' t:=by rw [hlk,if_neg hdt]
    have e2:lk ((d,v G) :: e) t=lk e t:=by rw [hlk,if_neg hdt]
    cases D' k <;> cases D k
    ·exact Eb L _ _ (k+1) h ht
    ·exact Eb L _ _ (k+1) (by rw [e2]; exact h) ht
    ·exact Eb L _ _ (k+1) (by rw [e1]; exact h) ht
    ·exact Eb L _ _ (k+1) (by rw [e1,e2]; exact h) ht
end
abbrev Cr (D:Nat→Bool) (G:Nat→Nat) (e:Aj) (L:List PO):Aj:=CP PO.wE D G e L 0
abbrev Cq (D:Nat→Bool) (G:Nat→Nat) (h:AZ) (L:List PO):AZ:=CP PO.wH D G h L 0
def CG (G:Nat→Nat) (i n:Nat):Nat→Nat:=fun k=>if k=i then n else G k
section
variable {P:Program} {ops:Array Oper}
def wt (ops:Array Oper):Nat→Nat→Nat→Bool
 | 0,_,_=>false
 | f+1,j,i=>Region.waitsFor .any ops j i || (List.range j).any fun m=>Region.waitsFor .any ops j m && wt ops f m i
def Cl (ops:Array Oper) (D:Nat→Bool):Prop:=∀ j k,D j=true→Region.waitsFor .any ops j k=true→D k=true
theorem Cl.wt {D:Nat→Bool} (h:Cl ops D) : ∀ (f j i:Nat),Al.wt ops f j i=true→D j=true→D i=true
 | 0,_,_,h1,_=>by cases h1
 | f+1,j,i,h1,h2=>by
  unfold Al.wt at h1
  rw [Bool.or_eq_true] at h1
  rcases h1 with h1 | h1
  ·exact h j i h2 h1
  ·obtain ⟨m,_,h3⟩:=List.any_eq_true.1 h1
   rw [Bool.and_eq_true] at h3
   exact h.wt f m i h3.2 (h j m h2 h3.1)
structure CA (ops:Array Oper) (D:Nat→Bool) (i:Nat):Prop where
 cl:Cl ops D
 hw : ∀ k,Region.waitsFor .any ops i k=true→D k=true
 un:D i=false
theorem CA.yes {D:Nat→Bool} {i:Nat} (h:CA ops D i) {k:Nat} (hk:Al.wt ops 40 i k=true):D k=true:=by
 unfold Al.wt at hk
 rw [Bool.or_eq_true] at hk
 rcases hk with hk | hk
 ·exact h.hw k hk
 ·obtain ⟨m,_,h3⟩:=List.any_eq_true.1 hk
  rw [Bool.and_eq_true] at h3
  exact h.cl.wt 39 m k h3.2 (h.hw m h3.1)
theorem CA.no {D:Nat→Bool} {i:Nat} (h:CA ops D i) {k:Nat} (hk:Al.wt ops 40 k i=true):D k=false:=by
 cases hD:D k with
 | false=>rfl
 | true=>have:=h.cl.wt 40 k i hk hD; rw [h.un] at this; cases this
def Dg (c0:Cx) (s:St) (L:List PO) (listed:Array Bool) (a:Act) (w:World):Prop:=
 ∃ ds,a.defers=ds∧a.tmps.size=s.N ∧ ∃ (y:Cx) (G:Nat→Nat),y.w=w∧c0.leM ds y∧y.ok∧(∀ id,y.H id=hget (Cq (fun k=>listed.getD k false) G s.h L) id) ∧
  (∀ t,AS y (get (Cr (fun k=>listed.getD k false) G s.e L) t) (a.tmps.getD t undef))
def DN (P:Program) (o:Oper) (R:Aj) (h:AZ) (n:Nat) (v:AV) (h':AZ):Prop:=
 ∀ (x:Cx) (a:Act),x.ok→x.H=hget h→x.n=n→BE x R a → ∀ (K:Act→World→Prop) (Q:Exit→Act→World→Prop),
  (∀ (u:Value) (y:Cx),x.le y→y.ok→y.H=hget h'→AS y v u→K (a.put o.dst u) y.w)→o.wp P a x.w K Q
theorem A2.toN {o:Oper} {R:Aj} {h:AZ} {n:Nat} {v:AV} {h':AZ} {n':Nat} (hs:A2 P true o R h n v h' n'):DN P o R h n v h':=
 fun x a h1 h2 h3 h4 K Q hK=>hs rfl x a h1 h2 h3 h4 K Q fun u y k1 k2 k3 _ k5=>hK u y k1 k2 k3 k5
def Ob (P:Program) (ops:Array Oper) (s:St) (L:List PO) (i:Nat) (p:PO) (o:Oper):Prop:=
 o.dst=p.d∧(∀ d,p.d=some d→Nat.blt d s.N=true) ∧ ∀ (D:Nat→Bool) (G:Nat→Nat) (e:Aj) (h:AZ) (n:Nat),CA ops D i →
  (∀ t,get e t=get (Cr D G s.e L) t)→(∀ id,hget h id=hget (Cq D G s.h L) id) →
  (o.guard=none ∧ ∃ h',DN P o e h n (p.v (CG G i n)) h'∧(∀ id,hget h' id=match p.hp with | some (j,ob)=>if j=id then ob (CG G i n) else hget h id | none=>hget h id)) ∨
  (p.hp=none ∧ ∃ c v0,p.v (CG G i n) = .whn c v0∧DW e ops o c∧(c=true → ∃ h2,DN P o e h n v0 h2 ∧ ∀ id,hget h2 id=hget h id))
def F3 (L:List PO) (t:Nat):Bool:=L.all fun p=>match p.d with | some d=>!Nat.beq d t | none=>true
def Jw (L:List PO) (t:Nat):Bool:=L.all fun p=>match p.hp with | some (d,_)=>!Nat.beq d t | none=>true
def E9:List PO→Bool
 | []=>true
 | p :: L=>(match p.d with | some d=>F3 L d | none=>true) && E9 L
def H1 (ops:Array Oper) (L:List PO):Bool:=(List.range L.length).all fun j=>(List.range j).all fun i=>match L[i]?.bind (·.hp),L[j]?.bind (·.hp) with
 | some (a,_),some (b,_)=>!Nat.beq a b || wt ops 40 j i
 | _,_=>true
theorem OC {L:List PO} {t:Nat} (h:F3 L t=true) {j:Nat} {p:PO} (hj:L[j]? = some p):p.d≠some t:=fun hd=>by
 have:=List.all_eq_true.1 h p (List.mem_of_getElem? hj)
 rw [hd] at this
 simp at this
theorem OI {L:List PO} {t:Nat} (h:Jw L t=true) {j:Nat} {p:PO} (hj:L[j]? = some p) : ∀ ob,p.hp≠some (t,ob):=fun ob hd=>by
 have:=List.all_eq_true.1 h p (List.mem_of_getElem? hj)
 rw [hd] at this
 simp at this
theorem MX {p:PO} {t:Nat} {v} (h:p.wE=some (t,v)):p.d=some t∧v=p.v:=by
 unfold PO.wE at h
 split at h
 ·rename_i d hd; simp only [Option.some.injEq,Prod.mk.injEq] at h; rw [hd,h.1]; exact ⟨rfl,h.2.symm⟩
 ·cases h
theorem NM {p:PO} {t:Nat} (h:p.d=some t):p.wE=some (t,p.v):=by unfold PO.wE; rw [h]
theorem Iq {p:PO} {t:Nat} {v} (h:p.wH=some (t,v)) : ∃ ob,p.hp=some (t,ob)∧v=ob:=⟨v,h,rfl⟩
theorem Mx {p:PO} {t:Nat} {ob} (h:p.hp=some (t,ob)):p.wH=some (t,ob):=h
theorem Mz : ∀ {L:List PO},E9 L=true → ∀ {j:Nat} {p:PO} {t:Nat},L[j]? = some p→p.d=some t→F3 (L.drop (j+1)) t=true
 | [],_,_,_,_,h,_=>by simp at h
 | q :: L,h,0,p,t,h1,h2=>by
  cases h1
  simp only [E9,Bool.and_eq_true,h2] at h
  simpa using h.1
 | q :: L,h,j+1,p,t,h1,h2=>by
  simp only [E9,Bool.and_eq_true] at h
  simpa using Mz h.2 (j:=j) (by simpa using h1) h2
theorem JX {L:List PO} {t:Nat} (h:F3 L t=true) {D:Nat→Bool} {k:Nat} : D8 PO.wE D t L k:=fun _ _ _ h1 _ h3=>OC h h1 (MX h3).1
theorem Pf {L:List PO} {t:Nat} (h:Jw L t=true) {D:Nat→Bool} {k:Nat} : D8 PO.wH D t L k:=fun _ _ _ h1 _ h3=>by obtain ⟨ob,h4,_⟩:=Iq h3; exact OI h h1 ob h4
theorem Qw {L:List PO} (hB:H1 ops L=true) {D:Nat→Bool} (hcl:Cl ops D) {i:Nat} {p:PO} {t:Nat} {ob} (hp:L[i]? = some p) (ht:p.hp=some (t,ob)) (hun:D i=false):D8 PO.wH D t (L.drop (i+1)) (i+1):=by
 intro j q v h1 h2 h3
 obtain ⟨O3,h4,_⟩:=Iq h3
 rw [List.getElem?_drop] at h1
 have hlt:i+1+j<L.length:=(List.getElem?_eq_some_iff.1 h1).1
 have:=List.all_eq_true.1 (List.all_eq_true.1 hB (i+1+j) (List.mem_range.2 hlt)) i (List.mem_range.2 (by omega))
 simp only [hp,h1,Option.bind_some,ht,h4,Bool.or_eq_true,Bool.not_eq_true'] at this
 rcases this with h5 | h5
 ·simp at h5
 ·have:=hcl.wt 40 _ _ h5 h2
  rw [hun] at this; cases this
def Ht (ops:Array Oper) (L:List PO):Bool:=(List.range L.length).all fun j=>match L[j]? with
 | some p=>p.dep.all fun k=>Nat.beq k j || wt ops 40 j k
 | none=>true
def Er:List PO→Prop
 | []=>True
 | p :: L=>(∀ G G':Nat→Nat,(∀ k,p.dep.contains k=true→G k=G' k)→p.v G'=p.v G ∧ ∀ id ob,p.hp=some (id,ob)→ob G'=ob G)∧Er L
theorem Er.at : ∀ {L:List PO},Er L → ∀ {j:Nat} {p:PO},L[j]? = some p → ∀ G G':Nat→Nat,(∀ k,p.dep.contains k=true→G k=G' k)→p.v G'=p.v G ∧ ∀ id ob,p.hp=some (id,ob)→ob G'=ob G
 | _ :: _,h,0,_,hj=>by cases hj; exact h.1
 | _ :: _,h,j+1,_,hj=>Er.at h.2 (j:=j) (by simpa using hj)
theorem OV {L:List PO} (hB:Ht ops L=true) {D:Nat→Bool} (hcl:Cl ops D) {j:Nat} {p:PO} (hp:L[j]? = some p) (hl:D j=true) {k:Nat} (hk:p.dep.contains k=true):D k=true:=by
 have hlt:j<L.length:=(List.getElem?_eq_some_iff.1 hp).1
 have h1:=List.all_eq_true.1 hB j (List.mem_range.2 hlt)
 simp only [hp] at h1
 have h2:=List.all_eq_true.1 h1 k (by simpa using hk)
 simp only [Bool.or_eq_true] at h2
 rcases h2 with h2 | h2
 ·rw [Nat.eq_of_beq_eq_true h2]; exact hl
 ·exact hcl.wt 40 _ _ h2 hl
theorem Dg.put {c0:Cx} {s:St} {L:List PO} {listed:Array Bool} {a:Act} {i:Nat} {p:PO} {y z:Cx} {G:Nat→Nat} {u:Value} (hp:L[i]? = some p) (hN : ∀ d,p.d=some d→Nat.blt d s.N=true) (hE:E9 L=true) (hH:H1 ops L=true)
  (hD:Ht ops L=true) (hLoc:Er L) (hi:i<listed.size) (hr:CA ops (fun k=>listed.getD k false) i) {ds:List Deferred} (hdef:a.defers=ds) (hsz:a.tmps.size=s.N) (hle:c0.leM ds y)
  (he : ∀ t,AS y (get (Cr (fun k=>listed.getD k false) G s.e L) t) (a.tmps.getD t undef)) (hyz:y.le z) (hzok:z.ok)
  (hzH : ∀ id,z.H id=match p.hp with | some (j,ob)=>if j=id then ob (CG G i y.n) else hget (Cq (fun k=>listed.getD k false) G s.h L) id | none=>hget (Cq (fun k=>listed.getD k false) G s.h L) id)
  (hv:AS z (p.v (CG G i y.n)) u):Dg c0 s L (listed.setIfInBounds i true) (a.put p.d u) z.w:=by
 have hD' : ∀ k,(listed.setIfInBounds i true).getD k false=(listed.getD k false || decide (k=i)):=fun k=>by
  by_cases hk:i=k
  ·subst hk; simp [hi]
  ·rw [getD_set_ne false hk]; simp [Ne.symm hk]
 have hsame : ∀ k,k≠i→(listed.setIfInBounds i true).getD k false=listed.getD k false:=fun k hk=>by rw [hD']; simp [hk]
 have hval : ∀ (j:Nat) (q:PO),L[j]? = some q→listed.getD j false=true→q.v (CG G i y.n)=q.v G ∧ ∀ id ob,q.hp=some (id,ob)→ob (CG G i y.n)=ob G:=fun j q hj hl=>by
  refine hLoc.at hj G _ fun k hk=>?_
  have hlk:=OV hD hr.cl hj hl hk
  have:k≠i:=fun e=>by subst e; rw [hr.un] at hlk; cases hlk
  simp [CG,this]
 have hdi:(fun k=>(listed.setIfInBounds i true).getD k false) (0+i)=true:=by show (listed.setIfInBounds i true).getD (0+i) false=true; rw [Nat.zero_add,hD']; simp
 refine ⟨ds,by cases hdd:p.d <;> simpa [Act.put,hdd] using hdef,?_,z,CG G i y.n,rfl,hle.trans hyz,hzok,fun id=>?_,fun t=>?_⟩
 ·cases hdd:p.d <;> simpa [Act.put,hdd] using hsz
 ·rw [hzH]
  have rest:(∀ ob,p.hp≠some (id,ob))→hget (Cq (fun k=>listed.getD k false) G s.h L) id=hget (Cq (fun k=>(listed.setIfInBounds i true).getD k false) (CG G i y.n) s.h L) id:=fun hne=>by
   refine (Eb BM L _ _ 0 rfl fun j q v h1 h2=>?_).symm
   obtain ⟨ob,h4,h5⟩:=Iq h2
   have hji:j≠i:=fun e=>by subst e; rw [hp] at h1; cases h1; exact hne ob h4
   rw [Nat.zero_add]
   exact ⟨hsame j hji,fun hl=>by rw [h5]; exact (hval j q h1 hl).2 id ob h4⟩
  cases hhp:p.hp with
  | none=>exact rest fun ob=>by rw [hhp]; simp
  | some r=>
   obtain ⟨j,ob⟩:=r
   by_cases hj:j=id
   ·subst hj
    simp only [if_true]
    have hlater:=Qw hH hr.cl hp hhp hr.un
    refine (FR BM (Mx hhp) L _ 0 i hp hdi ?_).symm
    rw [Nat.zero_add]
    intro m q v h1 h2 h3
    exact hlater m q v h1 ((hsame _ (by omega)).symm.trans h2) h3
   ·simp only [if_neg hj]
    exact rest fun ob'=>by rw [hhp]; intro e; cases e; exact hj rfl
 ·by_cases hpt:p.d=some t
  ·have e1:get (Cr (fun k=>(listed.setIfInBounds i true).getD k false) (CG G i y.n) s.e L) t=p.v (CG G i y.n):=
    FR B7 (NM hpt) L _ 0 i hp hdi (JX (Mz hE hp hpt))
   have hN':t<a.tmps.size:=by rw [hsz]; exact Bd (hN t hpt)
   rw [e1,hpt]
   simp only [Act.put,KW hN',if_true]
   exact hv
  ·have e1:get (Cr (fun k=>(listed.setIfInBounds i true).getD k false) (CG G i y.n) s.e L) t=get (Cr (fun k=>listed.getD k false) G s.e L) t:=by
    refine Eb B7 L _ _ 0 rfl fun j q v h1 h2=>?_
    obtain ⟨h4,h5⟩:=MX h2
    have hji:j≠i:=fun e=>by subst e; rw [hp] at h1; cases h1; exact hpt h4
    rw [Nat.zero_add]
    exact ⟨hsame j hji,fun hl=>by rw [h5]; exact (hval j q h1 hl).1⟩
   rw [e1]
   have h0:=(he t).mono hyz
   cases hdd:p.d with
   | none=>exact h0
   | some d=>
    have hdt:d≠t:=fun e=>hpt (by rw [hdd,e])
    have hN':d<a.tmps.size:=by rw [hsz]; exact Bd (hN d hdd)
    simp only [Act.put,KW hN',if_neg hdt]
    exact h0
theorem Dg.step {c0:Cx} {s:St} {L:List PO} {listed:Array Bool} {a:Act} {w:World} {i:Nat} {p:PO} {o:Oper} {Q:Exit→Act→World→Prop} (hp:L[i]? = some p) (ho:ops[i]? = some o) (hOb:Ob P ops s L i p o) (hE:E9 L=true) (hH:H1 ops L=true)
  (hD:Ht ops L=true) (hLoc:Er L) (hi:i<listed.size) (hr:CA ops (fun k=>listed.getD k false) i) (hinv:Dg c0 s L listed a w) :
  wpOp P ops Q i (Dg c0 s L (listed.setIfInBounds i true)) a w:=by
 obtain ⟨_,hdef,hsz,y,G,hyw,hle,hok,hyH,he⟩:=hinv
 subst hyw
 obtain ⟨hd,hN,hob⟩:=hOb
 unfold wpOp
 simp only [ho]
 rcases hob (fun k=>listed.getD k false) G _ _ y.n hr (fun t=>rfl) (fun id=>rfl) with ⟨hg,h',hspec,hh'⟩ | ⟨hhp,c,v0,hv0,hG,hspec⟩
 ·rw [if_pos (by simp [Region.wanted,hg])]
  refine .inl (hspec y a hok (funext fun id=>hyH id) rfl (fun t=>he t) _ Q fun u z hyz hzok hzH hv=>?_)
  rw [hd]
  exact Dg.put hp hN hE hH hD hLoc hi hr hdef hsz hle he hyz hzok (fun id=>by rw [hzH]; exact hh' id) hv
 ·have hw:Region.wanted o (yielded ops a.tmps)=c:=DW.wanted (s:=⟨_,[],0,0⟩) hG (fun t=>he t)
  rw [hw]
  cases c with
  | true=>
   obtain ⟨h2,hs2,hh2⟩:=hspec rfl
   rw [if_pos rfl]
   refine .inl (hs2 y a hok (funext fun id=>hyH id) rfl (fun t=>he t) _ Q fun u z hyz hzok hzH hv=>?_)
   rw [hd]
   refine Dg.put hp hN hE hH hD hLoc hi hr hdef hsz hle he hyz hzok (fun id=>by rw [hzH,hhp]; exact hh2 id) ?_
   rw [hv0]; exact .whn (fun _=>hv) (fun h=>by cases h)
  | false=>
   rw [if_neg (by decide),hd]
   refine Dg.put hp hN hE hH hD hLoc hi hr hdef hsz hle he (.refl y) hok (fun id=>by rw [hhp]; exact hyH id) ?_
   rw [hv0]; exact .whn (fun h=>by cases h) (fun _=>rfl)
def GE (e:Aj):Aj→Prop
 | []=>True
 | (t,a) :: r=>get e t=a∧GE e r
def GS (e:AZ):AZ→Prop
 | []=>True
 | (t,a) :: r=>hget e t=a∧GS e r
theorem Kk {e0 e:Aj} (he : ∀ t,get e t=get e0 t) : ∀ (r:Aj),GE e0 r → ∀ t,get (r++e) t=get e0 t
 | [],_,t=>he t
 | (t0,a) :: r,⟨h1,h2⟩,t=>by
  rw [List.cons_append,B7]
  split
  ·rename_i ht; subst ht; exact h1.symm
  ·exact Kk he r h2 t
theorem JT {e0 e:AZ} (he : ∀ t,hget e t=hget e0 t) : ∀ (r:AZ),GS e0 r → ∀ t,hget (r++e) t=hget e0 t
 | [],_,t=>he t
 | (t0,a) :: r,⟨h1,h2⟩,t=>by
  rw [List.cons_append,BM]
  split
  ·rename_i ht; subst ht; exact h1.symm
  ·exact JT he r h2 t
theorem DN.same {o:Oper} {R R':Aj} {h h':AZ} {n:Nat} {v:AV} {h2:AZ} (hs:DN P o R h n v h2) (hR : ∀ t,get R' t=get R t) (hh : ∀ id,hget h' id=hget h id):DN P o R' h' n v h2:=by
 intro x a hok hH hn he K Q hK
 exact hs x a hok (by rw [hH]; exact funext hh) hn (fun t=>by rw [← hR]; exact he t) K Q hK
theorem Sw {s:St} {L:List PO} {i:Nat} {p:PO} {o:Oper} (hg:o.guard=none) (hd:o.dst=p.d) (hN : ∀ d,p.d=some d→Nat.blt d s.N=true) (hp:p.hp=none) (ie:(Nat→Nat)→Aj) (ih:(Nat→Nat)→AZ)
  (hE : ∀ D G,CA ops D i→GE (Cr D G s.e L) (ie G)) (hH : ∀ D G,CA ops D i→GS (Cq D G s.h L) (ih G))
  (hv : ∀ G n,p.v (CG G i n)=p.v G) (h : ∀ G e h' n,∃ h2,DN P o (ie G++e) (ih G++h') n (p.v G) h2 ∧ ∀ id,hget h2 id=hget (ih G++h') id):Ob P ops s L i p o:=by
 refine ⟨hd,hN,fun D G e h' n hr he hh=>.inl ⟨hg,?_⟩⟩
 have g1:=Kk he _ (hE D G hr)
 have g2:=JT hh _ (hH D G hr)
 obtain ⟨h2,k1,k2⟩:=h G e h' n
 refine ⟨h2,?_,fun id=>by rw [hp,k2,g2,hh]⟩
 rw [hv]
 exact k1.same (fun t=>by rw [g1,he]) (fun id=>by rw [g2,hh])
theorem Aq {s:St} {L:List PO} {i:Nat} {p:PO} {o:Oper} {n1:Nat→Nat} (hg:o.guard=none) (hd:o.dst=p.d) (hN : ∀ d,p.d=some d→Nat.blt d s.N=true) (hp:p.hp=none) (ie:(Nat→Nat)→Aj) (ih:(Nat→Nat)→AZ)
  (hE : ∀ D G,CA ops D i→GE (Cr D G s.e L) (ie G)) (hH : ∀ D G,CA ops D i→GS (Cq D G s.h L) (ih G))
  (hv : ∀ G n,p.v (CG G i n)=p.v G) (h : ∀ G e h' n,A2 P true o (ie G++e) (ih G++h') n (p.v G) (ih G++h') (n1 n)):Ob P ops s L i p o:=
 Sw hg hd hN hp ie ih hE hH hv fun G e h' n=>⟨_,(h G e h' n).toN,fun _=>rfl⟩
theorem NZ {s:St} {L:List PO} {i:Nat} {p:PO} {o:Oper} {id:Nat} {ob:(Nat→Nat)→Option AY} (hg:o.guard=none) (hd:o.dst=p.d) (hN : ∀ d,p.d=some d→Nat.blt d s.N=true) (hp:p.hp=some (id,ob)) (ie:(Nat→Nat)→Aj) (ih:(Nat→Nat)→AZ)
  (hE : ∀ D G,CA ops D i→GE (Cr D G s.e L) (ie G)) (hH : ∀ D G,CA ops D i→GS (Cq D G s.h L) (ih G))
  (h : ∀ (G:Nat→Nat) e h' n,DN P o (ie G++e) (ih G++h') n (p.v (CG G i n)) ((id,ob (CG G i n)) :: (ih G++h'))):Ob P ops s L i p o:=by
 refine ⟨hd,hN,fun D G e h' n hr he hh=>.inl ⟨hg,?_⟩⟩
 have g1:=Kk he _ (hE D G hr)
 have g2:=JT hh _ (hH D G hr)
 refine ⟨_,(h G e h' n).same (fun t=>by rw [g1,he]) (fun j=>by rw [g2,hh]),fun j=>?_⟩
 rw [hp,BM]
 simp only
 split
 ·rfl
 ·rw [g2,hh]
theorem ED {s:St} {L:List PO} {i:Nat} {p:PO} {o:Oper} {id:Nat} {ob:(Nat→Nat)→Option AY} {n1:Nat→Nat} (hg:o.guard=none) (hd:o.dst=p.d) (hN : ∀ d,p.d=some d→Nat.blt d s.N=true) (hp:p.hp=some (id,ob)) (ie:(Nat→Nat)→Aj) (ih:(Nat→Nat)→AZ)
  (hE : ∀ D G,CA ops D i→GE (Cr D G s.e L) (ie G)) (hH : ∀ D G,CA ops D i→GS (Cq D G s.h L) (ih G))
  (h : ∀ (G:Nat→Nat) e h' n,A2 P true o (ie G++e) (ih G++h') n (p.v (CG G i n)) ((id,ob (CG G i n)) :: (ih G++h')) (n1 n)):Ob P ops s L i p o:=
 NZ hg hd hN hp ie ih hE hH fun G e h' n=>(h G e h' n).toN
theorem DN.frz {o:Oper} {R:Aj} {h:AZ} {n id g:Nat} {e:TypeId} {sz:Nat} {xs:List (List RV)} (hs:DN P o R h n (.own id g) ((id,some (.arr g e sz xs)) :: h)):DN P o R h n (.r (.sl xs)) ((id,none) :: h):=by
 intro x a hok hH hn he K Q hK
 refine hs x a hok hH hn he K Q fun u y k1 k2 k3 k4=>?_
 have hHid:y.H id=some (.arr g e sz xs):=by rw [k3,BM,if_pos rfl]
 let y':Cx:={ y with S:=fun b=>y.S b ∨ ∃ k,y.β id=some (b,k),H:=hget ((id,none) :: h) }
 have hsub : ∀ i o,y'.H i=some o→i≠id∧y.H i=some o:=by
  intro i o ho
  simp only [y',BM] at ho
  split at ho
  ·cases ho
  ·rename_i hne
   refine ⟨fun e=>hne e.symm,?_⟩
   rw [k3,BM,if_neg hne]; exact ho
 have hle':y.le y':=⟨Nat.le_refl _,rfl,rfl,rfl,fun _ _=>rfl,fun _ h=>.inl h,rfl,Nat.le_refl _,fun i o ho _=>⟨o,(hsub i o ho).2,rfl,rfl,rfl⟩,fun i o ho hf _ _=>⟨o,(hsub i o ho).2,hf,rfl,rfl,rfl,rfl⟩⟩
 have hok':y'.ok:=by
  refine ⟨fun b hb=>?_,k2.F_lt,fun b hb=>?_,fun i o ho=>?_,fun i o b k ho hb=>?_,fun i i' o o' b k k' ho ho'=>k2.inj i i' o o' b k k' (hsub _ _ ho).2 (hsub _ _ ho').2,k2.extOf (fun i o ho=>⟨o,(hsub i o ho).2⟩) rfl rfl (Nat.le_refl _) (fun i o b k ho ha hS=>hS.elim (k2.own' i o b k (hsub i o ho).2 ha).2.1 fun ⟨k',hb⟩=>(hsub i o ho).1 (k2.inj' (hsub i o ho).2 hHid ha (.inl hb))) (fun i o b k ho ha=>(k2.own' i o b k (hsub i o ho).2 ha).2.2),k2.tabs.le hle'⟩
  ·rcases hb with hb | ⟨k,hb⟩
   ·exact k2.S_lt b hb
   ·exact (k2.own id _ b k hHid hb).1
  ·rcases hb with hb | ⟨k,hb⟩
   ·exact k2.SF b hb
   ·exact (k2.own id _ b k hHid hb).2.2
  ·obtain ⟨j1,j2⟩:=k2.obj i o (hsub _ _ ho).2
   exact ⟨j1,j2.mono hle' (fun _ _ _=>rfl) fun _ _ _ _=>rfl⟩
  ·obtain ⟨j1,j2,j3⟩:=k2.own i o b k (hsub _ _ ho).2 hb
   refine ⟨j1,?_,j3⟩
   rintro (h1 | ⟨k',h1⟩)
   ·exact j2 h1
   ·exact (hsub _ _ ho).1 (k2.inj i id o _ b k k' (hsub _ _ ho).2 hHid hb h1)
 exact hK u y' (k1.trans hle') hok' rfl (.r (I7 k2 hHid k4 (fun _ h=>.inl h) (fun b k hb=>.inr ⟨k,hb⟩)))
end
section
variable {ops:Array Oper} {D:Nat→Bool} {G:Nat→Nat} {e:Aj} {h:AZ} {L:List PO} {t:Nat}
theorem BK (hB:F3 L t=true) {a:AV} (ha:get e t=a):get (Cr D G e L) t=a:=(EZ B7 L e 0 (JX hB)).trans ha
theorem Au {i:Nat} (hr:CA ops D i) (j:Nat) {p:PO} {a:AV} (hj:L[j]? = some p) (hd:p.d=some t) (hw:wt ops 40 i j=true) (hB:F3 (L.drop (j+1)) t=true) (ha:p.v G=a):get (Cr D G e L) t=a:=
 (FR B7 (NM hd) L e 0 j hj (by rw [Nat.zero_add]; exact hr.yes hw) (JX hB)).trans ha
theorem At (hB:Jw L t=true) {a:Option AY} (ha:hget h t=a):hget (Cq D G h L) t=a:=(EZ BM L h 0 (Pf hB)).trans ha
def HO (ops:Array Oper) (i t:Nat):List PO→Nat→Bool
 | [],_=>true
 | p :: L,k=>(match p.hp with | some (d,_)=>!Nat.beq d t || Nat.beq k i || wt ops 40 k i | none=>true) && HO ops i t L (k+1)
theorem Ky {i:Nat} (hr:CA ops D i) : ∀ {L:List PO} {k:Nat},HO ops i t L k=true→D8 PO.wH D t L k
 | [],_,_=>fun j _ _ h=>by simp at h
 | q :: L,k,hB=>by
  simp only [HO,Bool.and_eq_true] at hB
  intro j p v h1 h2 h3
  match j with
  | 0=>
   cases h1
   obtain ⟨ob,h4,_⟩:=Iq h3
   rw [h4] at hB
   simp only [Bool.or_eq_true,Bool.not_eq_true'] at hB
   rcases hB.1 with (h5 | h5) | h5
   ·simp at h5
   ·rw [Nat.add_zero,Nat.eq_of_beq_eq_true h5,hr.un] at h2; cases h2
   ·rw [Nat.add_zero,hr.no h5] at h2; cases h2
  | j+1=>exact Ky hr hB.2 j p v (by simpa using h1) (by rwa [show k+1+j=k+(j+1) by omega]) h3
theorem Fs {i:Nat} (hr:CA ops D i) (hB:HO ops i t L 0=true) {a:Option AY} (ha:hget h t=a):hget (Cq D G h L) t=a:=(EZ BM L h 0 (Ky hr hB)).trans ha
theorem F5 {i:Nat} (hr:CA ops D i) (j:Nat) {p:PO} {ob} {a:Option AY} (hj:L[j]? = some p) (hd:p.hp=some (t,ob)) (hw:wt ops 40 i j=true) (hB:HO ops i t (L.drop (j+1)) (j+1)=true) (ha:ob G=a):hget (Cq D G h L) t=a:=
 (FR BM (Mx hd) L h 0 j hj (by rw [Nat.zero_add]; exact hr.yes hw) (by rw [Nat.zero_add]; exact Ky hr hB)).trans ha
end
section
variable {P:Program} {ops:Array Oper}
def My (ops:Array Oper) (n:Nat):Bool:=(List.range n).all fun i=>match ops[i]? with | some o=>o.after.all fun e=>!Region.binds .any e || decide (e.on<i) | none=>false
def Ge (P:Program) (ops:Array Oper) (s:St) (L0:List PO):Nat→List PO→List Oper→Prop
 | _,[],_=>True
 | _,_ :: _,[]=>False
 | i,p :: L,o :: l=>Ob P ops s L0 i p o∧Ge P ops s L0 (i+1) L l
theorem Ge.at {s:St} {L0:List PO} : ∀ {L:List PO} {l:List Oper} {i0:Nat},Ge P ops s L0 i0 L l → ∀ {j:Nat} {p:PO} {o:Oper},L[j]? = some p→l[j]? = some o→Ob P ops s L0 (i0+j) p o
 | _ :: _,_ :: _,i0,h,0,_,_,h1,h2=>by cases h1; cases h2; exact h.1
 | _ :: L,_ :: l,i0,h,j+1,p,o,h1,h2=>by
  have:=Ge.at (j:=j) h.2 (p:=p) (o:=o) (by simpa using h1) (by simpa using h2)
  rwa [show i0+(j+1)=i0+1+j by omega]
 | _ :: _,[],_,h,_,_,_,_,_=>h.elim
 | [],_,_,_,_,_,_,h1,_=>by simp at h1
def CI (listed:Array Bool):Nat→Nat
 | 0=>0
 | n+1=>CI listed n+(if listed.getD n false then 0 else 1)
theorem MG {listed:Array Bool} {i:Nat} (hi:i<listed.size) (hun:listed.getD i false=false) : ∀ n,CI (listed.setIfInBounds i true) n+(if i<n then 1 else 0)=CI listed n
 | 0=>by simp [CI]
 | n+1=>by
  have ih:=MG hi hun n
  unfold CI
  by_cases hin:i=n
  ·subst hin
   rw [hun]
   have:(listed.setIfInBounds i true).getD i false=true:=by simp [hi]
   rw [this]
   simp at ih ⊢
   exact ih
  ·rw [getD_set_ne false hin]
   have:(i<n+1)↔(i<n):=by omega
   simp only [this]
   omega
theorem LN {listed : Array Bool} : ∀ {n : Nat}, 0 < CI listed n → ∃ i, i < n ∧ listed.getD i false = false ∧ ∀ j, j < i → listed.getD j false = true
  | 0, h => by simp [CI] at h
  | n + 1, h => by
    by_cases h0 : 0 < CI listed n
    · obtain ⟨i, h1, h2, h3⟩ := LN h0
      exact ⟨i, by omega, h2, h3⟩
    · have hall : ∀ m, m ≤ n → CI listed m = 0 := by
        intro m hm
        have : CI listed m ≤ CI listed n := by
          clear h h0
          induction n with
          | zero => have : m = 0 := by omega
                    subst this; exact Nat.le_refl _
          | succ n ih =>
            by_cases hmn : m = n + 1
            · subst hmn; exact Nat.le_refl _
            · exact Nat.le_trans (ih (by omega)) (Nat.le_add_right ..)
        omega
      unfold CI at h
      refine ⟨n, by omega, ?_, fun j hj => ?_⟩
      · cases hl : listed.getD n false with
        | false => rfl
        | true => rw [hl] at h; simp at h; omega
      · have := hall (j + 1) (by omega)
        unfold CI at this
        cases hl : listed.getD j false with
        | true => rfl
        | false => rw [hl] at this; simp at this
theorem MU {listed:Array Bool} : ∀ {n:Nat},CI listed n=0 → ∀ j,j<n→listed.getD j false=true
 | 0,_,j,hj=>by omega
 | n+1,h,j,hj=>by
  unfold CI at h
  by_cases hjn:j=n
  ·subst hjn
   cases hl:listed.getD j false with
   | true=>rfl
   | false=>rw [hl] at h; simp at h
  ·exact MU (n:=n) (by omega) j (by omega)
theorem Ld {listed:Array Bool} (h : ∀ j,listed.getD j false=false) : ∀ n,CI listed n=n
 | 0=>rfl
 | n+1=>by unfold CI; rw [Ld h n,h n]; simp
theorem SI {c0:Cx} {s:St} {L:List PO} {n g:Nat} {l:List Oper} {Q:Exit→Act→World→Prop} (hl:l.toArray=ops) (hn0:n=ops.size∨(n<ops.size∧Region.sinkB .any ops n=true∧Region.chainB .any ops n=true)) (hLn:L.length=n) (hback:My ops n=true)
  (hD:Ht ops L=true) (hE:E9 L=true) (hH:H1 ops L=true) (hLoc:Er L) (hOb:Ge P ops s L 0 L l)
  (hend : ∀ listed a w,HeadInv .any ops n listed→(∀ j,j<n→listed.getD j false=true)→Dg c0 s L listed a w→wpAny P .any ops Q g listed a w) :
  ∀ (f:Nat) (listed:Array Bool) (a:Act) (w:World),CI listed n=f→HeadInv .any ops n listed→Dg c0 s L listed a w→wpAny P .any ops Q (f+g) listed a w:=by
 have hn:n≤ops.size:=by rcases hn0 with h | h <;> omega
 intro f
 induction f with
 | zero=>
  intro listed a w hcnt inv hinv
  rw [Nat.zero_add]
  exact hend listed a w inv (MU hcnt) hinv
 | succ f ih=>
  intro listed a w hcnt inv hinv
  rw [show f+1+g=(f+g)+1 by omega]
  obtain ⟨i0,hi0,hun0,hbefore⟩:=LN (listed:=listed) (n:=n) (by omega)
  have hs0:i0<listed.size:=by rw [inv.size]; omega
  have hready0:i0∈Region.ready .any ops listed:=by
   refine mem_ready.2 ⟨getD_in hs0 hun0,?_⟩
   have hio : ∃ o,ops[i0]? = some o:=⟨ops[i0]'(by omega),by simp [Array.getElem?_eq_getElem (show i0<ops.size by omega)]⟩
   obtain ⟨o,ho⟩:=hio
   refine ⟨o,ho,fun e he hb=>?_⟩
   have h1:=List.all_eq_true.1 hback i0 (List.mem_range.2 hi0)
   simp only [ho] at h1
   have h2:=(Array.all_eq_true_iff_forall_mem.1 h1) e he
   simp only [hb,Bool.not_true,Bool.false_or,decide_eq_true_eq] at h2
   exact hbefore _ h2
  refine ⟨fun h=>(by rw [h] at hready0; cases hready0),fun i hi=>?_⟩
  have hin:i<n:=by
   rcases Nat.lt_or_ge i n with h | h
   ·exact h
   ·rcases hn0 with e | ⟨hn1,hs,hc⟩
    ·obtain ⟨_,o,ho,_⟩:=mem_ready.1 hi
     have:=(Array.getElem?_eq_some_iff.1 ho).1
     omega
    ·exact absurd hi (tail_waits hs hc hn1 inv _ i0 rfl hi0 (getD_in hs0 hun0) i h)
  obtain ⟨hun,o,ho,hall⟩:=mem_ready.1 hi
  have hunf:=getD_both hun
  have his:i<listed.size:=by rw [inv.size]; omega
  obtain ⟨p,hp⟩ : ∃ p,L[i]? = some p:=⟨L[i]'(by omega),by simp [List.getElem?_eq_getElem (show i<L.length by omega)]⟩
  have hol:l[i]? = some o:=by rw [← ho,← hl]; simp
  have hob:=hOb.at hp hol
  rw [Nat.zero_add] at hob
  have hrd:CA ops (fun k=>listed.getD k false) i:=by
   refine ⟨fun j k hj hk=>?_,fun k hk=>?_,hunf⟩
   ·obtain ⟨oj,hoj,e,he,hb,hon⟩:=Region.waitsFor_spec hk
    rw [← hon]; exact inv.closed j oj hoj hj e he hb
   ·obtain ⟨oi,hoi,e,he,hb,hon⟩:=Region.waitsFor_spec hk
    have:oi=o:=Option.some.inj (hoi.symm.trans ho)
    subst this
    rw [← hon]; exact hall e he hb
  have step:=Dg.step (Q:=Q) hp ho hob hE hH hD hLoc his hrd hinv
  refine wpOp_mono (fun a' w' h'=>ih _ a' w' ?_ (inv.set hi hin) h') step
  have:=MG his hunf n
  rw [if_pos hin] at this
  omega
def Mk (ops:Array Oper) (n:Nat) (L:List PO):Bool:=
 (Nat.beq n ops.size || (decide (n<ops.size) && Region.sinkB .any ops n && Region.chainB .any ops n)) && decide (L.length=n) && My ops n && Ht ops L && E9 L && H1 ops L
  && Region.seqB .any ops (ops.size-n) n (Bz (Array.replicate ops.size false) (List.range n))
theorem M8 : ∀ (is:List Nat) (l:Array Bool) (j:Nat),(∀ i∈is,i<l.size)→(Bz l is).getD j false=(l.getD j false || is.contains j)
 | [],l,j,_=>by simp [Bz]
 | i :: is,l,j,h=>by
  show (Bz (l.setIfInBounds i true) is).getD j false=_
  rw [M8 is _ j (fun k hk=>by simp; exact h k (List.mem_cons_of_mem _ hk))]
  by_cases hij:i=j
  ·subst hij
   have:=h i (List.mem_cons_self ..)
   simp [this]
  ·rw [getD_set_ne false hij]
   simp [Ne.symm hij]
theorem Ji {α:Type} {wr:PO→Option (Nat × ((Nat→Nat)→α))} {D D':Nat→Bool} {G:Nat→Nat} : ∀ (L:List PO) (e:List (Nat × α)) (k:Nat),(∀ j,k≤j→j<k+L.length→D j=D' j)→CP wr D G e L k=CP wr D' G e L k
 | [],_,_,_=>rfl
 | p :: L,e,k,h=>by
  have h0:=h k (Nat.le_refl _) (by simp)
  have ih:=fun e=>Ji (wr:=wr) (G:=G) L e (k+1) (fun j h1 h2=>h j (by omega) (by simp; omega))
  unfold CP
  rw [h0]
  simp only [ih]
theorem Fx {id:Nat} {l:List Oper} {s:St} {Q:Exit→St→Prop} (n:Nat) (L:List PO) {lt:List Oper} (hm:P.follows .mixedOrders=true) (hB:Mk l.toArray n L=true) (hLoc:Er L) (e4:l.drop n=lt)
  (hOb:Ge P l.toArray s L 0 L l)
  (h : ∀ (G:Nat→Nat) (n':Nat),AB P l.toArray lt ⟨Cr (fun _=>true) G s.e L,Cq (fun _=>true) G s.h L,n',s.N⟩ (Q .normal)):AW P (.region id l.toArray true) Q s:=by
 intro z0 hz0 c0 a w ⟨_,hdef,hsz,y,hyw,hle,hok,hH,hn,he⟩
 subst hyw
 obtain ⟨r1,r2⟩:=LB hok
 simp only [Mk,Bool.and_eq_true,decide_eq_true_eq] at hB
 obtain ⟨⟨⟨⟨⟨⟨b0,b2⟩,b3⟩,b6⟩,b7⟩,b8⟩,b9⟩:=hB
 have b1:n=l.toArray.size∨(n<l.toArray.size∧Region.sinkB .any l.toArray n=true∧Region.chainB .any l.toArray n=true):=by
  rw [Bool.or_eq_true] at b0
  rcases b0 with h | h
  ·exact .inl (Nat.eq_of_beq_eq_true h)
  ·simp only [Bool.and_eq_true,decide_eq_true_eq] at h
   exact .inr ⟨h.1.1,h.1.2,h.2⟩
 have hnle:n≤l.toArray.size:=by rcases b1 with h | h <;> omega
 refine JO JR hm hz0 ?_
 generalize hz:({ y with w:={ y.w with drawn:=y.w.drawn+1 } } : Cx)=z at r1 r2
 have hzw:z.w = { y.w with drawn:=y.w.drawn+1 }:=by rw [← hz]
 have hzH:z.H=hget s.h:=by rw [← hz]; exact hH
 rw [← hzw]
 have hrep : ∀ j,(Array.replicate l.toArray.size false).getD j false=false:=getD_replicate_false _
 have key:=SI (P:=P) (c0:=c0) (s:=s) (L:=L) (n:=n) (g:=l.toArray.size-n) (l:=l) (Q:=DL c0 Q) rfl b1 b2 b3 b6 b7 b8 hLoc hOb
  (fun listed a' w' inv hall hinv=>by
   have hlisted:listed=Bz (Array.replicate l.toArray.size false) (List.range n):=by
    have hsz1:listed.size=(Bz (Array.replicate l.toArray.size false) (List.range n)).size:=by rw [inv.size,MD]; simp
    refine Array.ext hsz1 fun j h1 h2=>?_
    have h3:=M8 (List.range n) (Array.replicate l.toArray.size false) j (fun i hi=>by have:=List.mem_range.1 hi; rw [Array.size_replicate]; omega)
    rw [hrep] at h3
    have e1:listed[j]=listed.getD j false:=by unfold Array.getD; rw [dif_pos h1]; rfl
    have e2:(Bz (Array.replicate l.toArray.size false) (List.range n))[j]=(Bz (Array.replicate l.toArray.size false) (List.range n)).getD j false:=by unfold Array.getD; rw [dif_pos h2]; rfl
    rw [e1,e2,h3]
    by_cases hj:j<n
    ·rw [hall j hj]; simp [hj]
    ·have hjl:j<l.toArray.size:=by rw [inv.size] at h1; exact h1
     rw [getD_both (inv.tail j (by omega) hjl)]; simp [hj]
   obtain ⟨_,i1,i2,z',G,i3,i4,i5,i6,i7⟩:=hinv
   subst i3
   have hdl:(l.drop n).length=l.toArray.size-n:=by simp
   have hD : ∀ j,0≤j→j<0+L.length→(fun _=>true) j=(fun k=>listed.getD k false) j:=fun j _ hj=>(hall j (by omega)).symm
   have:=wpAny_of_seq (P:=P) (md:=.any) (ops:=l.toArray) (Q':=DL c0 Q) (l.drop n) n listed a' z'.w (fun j=>by simp [List.getElem?_drop]) (by rw [hdl,hlisted]; exact b9) ?_
   ·rwa [hdl] at this
   ·rw [e4]
    refine h G z'.n c0 a' z'.w ⟨_,i1,i2,z',rfl,i4,i5,funext fun id=>?_,rfl,fun t=>?_⟩ _ fun s'' a'' w'' j1 j2=>⟨by simp,s'',j1,j2⟩
    ·rw [i6]; show _=hget (CP _ _ _ _ _ _) _; rw [Ji L _ 0 hD]
    ·show AS z' (get (CP _ _ _ _ _ _) t) _
     rw [Ji L _ 0 hD]; exact i7 t)
  n (Array.replicate l.toArray.size false) a z.w (Ld hrep n)
  ⟨by simp,fun j oj _ hl=>(by rw [hrep] at hl; cases hl),fun t _ ht=>getD_in (by simpa using ht) (hrep _)⟩
  ⟨_,hdef,hsz,z,fun _=>0,rfl,hle.trans r1,r2,fun id=>by rw [hzH]; exact (EZ BM L _ 0 fun j p _ _ h1=>by rw [hrep] at h1; cases h1).symm,fun t=>by
   have e1:get (Cr (fun k=>(Array.replicate l.toArray.size false).getD k false) (fun _=>0) s.e L) t=get s.e t:=EZ B7 L _ 0 fun j p _ _ h1=>by rw [hrep] at h1; cases h1
   rw [e1]
   exact (he t).mono r1⟩
 have e:n+(l.toArray.size-n)=l.toArray.size:=by omega
 rw [e] at key
 exact key
end
section
variable {P:Program} {c:Bool} {o:Oper} {R:Aj} {h:AZ}
end
section
variable {P:Program} {c:Bool} {o:Oper} {R:Aj} {h:AZ} {n:Nat}
def Gg (cs:List RV) (k:Nat) (vs:List RV):List RV:=cs.take k++vs++cs.drop (k+vs.length)
theorem Pk {t:TypeId} {x y:Operand} {id g i k m:Nat} {e:TypeId} {sz:Nat} {xs:List (List RV)} {row ds:List RV} {a:AV} (ho:o.op = .store t x y) (ht : ∃ i,P.info? t=some i∧i.size=m)
  (hx:Ev c R x (.ptr id g i k)) (hh:hget h id=some (.arr g e sz xs)) (hrow:xs[i]? = some row) (hy:Ev c R y a) (hd:HX a=some ds) (hm:ds.length=m) (hk:k+ds.length≤row.length) :
  A2 P c o R h n .any ((id,some (.arr g e sz (xs.set i (Gg row k ds)))) :: h) n:=by
 intro hc z w hok hH hn he K Q hK
 obtain ⟨ii,hi,hisz⟩:=ht
 have hHid:z.H id=some (.arr g e sz xs):=by rw [hH]; exact hh
 have hil:i<xs.length:=(List.getElem?_eq_some_iff.1 hrow).1
 obtain ⟨b,cap,us,hβ,hx2,hown,hrows,hcells⟩:=IW hok hHid hil (hx.rep he hc)
 have hgn:=(hok.obj _ _ hHid).1
 obtain ⟨hus,hown2⟩:=hown
 rcases hown2 with ⟨hv,_⟩ | ⟨b',cap',cur,hv,_,hcur,hnc,hcm,hcs,htake⟩
 ·cases hv
 simp only [Value.slice.injEq,Option.some.injEq,Addr.mk.injEq,true_and,and_true] at hv
 obtain ⟨rfl,rfl⟩:=hv
 have hsz:0<sz:=(hok.obj _ _ hHid).2.1
 have hrl:=hrows row (List.mem_of_getElem? hrow)
 obtain ⟨hdl,hdg⟩:=MV hd
 have hones : ∀ b∈BD a,b.one=true:=fun b hb=>by
  obtain ⟨j,hj,rfl⟩:=List.mem_iff_getElem.1 hb
  obtain ⟨a',h1,h2⟩:=hdg j (ds[j]'(by omega)) (by simp [List.getElem?_eq_getElem (show j<ds.length by omega)])
  rw [List.getElem?_eq_getElem hj] at h1
  cases h1
  exact Kg h2
 have hvr:=hy.rep he hc
 obtain ⟨hvs,hvg,hv1⟩:=G8 hvr hones
 replace hdl:ds.length=(BD a).length:=hdl
 have hvl:(w.eval y).cells.toList.length=ds.length:=by rw [Array.length_toList (xs:=(w.eval y).cells),hvs,hdl]
 have hbase:i * sz+sz≤xs.length * sz:=by
  have:(i+1) * sz≤xs.length * sz:=Nat.mul_le_mul_right _ hil
  rwa [Nat.add_mul,Nat.one_mul] at this
 have hcap:xs.length * sz≤cur.size:=by rw [hcs]; exact Nat.mul_le_mul_right _ hnc
 have hrun:=IU (P:=P) (k:=i * sz+k) hi hcur (v:=w.eval y) (by rw [hvs,hisz,← hdl,hm]) hv1 (by rw [hvs,← hdl]; omega)
 rw [show (w.eval y).cells.size=ds.length by rw [hvs,hdl]] at hrun
 have hsp2:=fun j=>FX cur.toList (w.eval y).cells.toList (i * sz+k) j (by have:=Array.length_toList (xs:=cur); rw [hvl]; omega)
 rw [hvl] at hsp2
 let cur':Array Value:=(cur.toList.take (i * sz+k)++(w.eval y).cells.toList++cur.toList.drop (i * sz+k+ds.length)).toArray
 have hcur's:cur'.size=cur.size:=by
  have hvs':(w.eval y).cells.size=ds.length:=by rw [hvs,hdl]
  simp [cur',hvs']; omega
 have hspl:(Gg row k ds).length=row.length:=by simp [Gg]; omega
 have hspg : ∀ j,(Gg row k ds)[j]? = if k≤j∧j<k+ds.length then ds[j-k]? else row[j]?:=fun j=>FX row ds k j hk
 have hup:=CB hok id (.arr g e sz (xs.set i (Gg row k ds))) (z.w.setRow b cur') (some (b,cap)) z.n (by simp [World.setRow]) rfl rfl rfl
  (fun b' _ hne=>setRow_other _ _ _ _ (fun e=>hne _ cap hHid (by rw [e]; exact hβ))) (fun b' k' hb=>by
   cases hb
   exact ⟨by simpa [World.setRow] using (hok.own id _ b cap hHid hβ).1,.inr ⟨_,_,hHid,hβ⟩⟩) (Nat.le_refl _) hgn
  (fun _=>⟨_,hHid,rfl,by simp [AY.shape],hβ.symm⟩)
  (fun hle=>by
   have hbs : ∀ b',z.S b'→(z.w.setRow b cur').heap[b']? = z.w.heap[b']?:=fun b' hb=>hle.blk b' (.inl hb)
   refine ⟨hsz,fun r hr=>?_,.slice (some ⟨b,0,none⟩) xs.length cap,cur'.toList.take (xs.length * sz),by simp [BY],⟨by simp [hcur's]; omega,.inr ⟨b,cap,cur',by simp,Nat.zero_le _,setRow_heap _ _ _ _ _ _ hcur,by simpa using hnc,hcm,by rw [hcur's,hcs],by simp⟩⟩,fun i' row' c' d' k1 k2=>?_⟩
   ·rcases List.mem_or_eq_of_mem_set hr with hr | rfl
    ·exact hrows r hr
    ·rw [hspl]; exact hrl
   ·have hi'l:i'<xs.length:=by simpa using (List.getElem?_eq_some_iff.1 k1).1
    have hc'l:c'<sz:=by
     have:=(List.getElem?_eq_some_iff.1 k2).1
     rw [List.getElem?_set] at k1
     split at k1
     ·cases k1; rw [hspl,hrl] at this; exact this
     ·rw [← hrows row' (List.mem_of_getElem? k1)]; exact this
    have hlt:i' * sz+c'<xs.length * sz:=by
     calc i' * sz+c'<i' * sz+sz:=by omega
      _=(i'+1) * sz:=by rw [Nat.add_mul,Nat.one_mul]
      _≤xs.length * sz:=Nat.mul_le_mul_right _ hi'l
    have hget:(cur'.toList.take (xs.length * sz))[i' * sz+c']? = if i * sz+k≤i' * sz+c'∧i' * sz+c'<i * sz+k+ds.length then (w.eval y).cells.toList[i' * sz+c' - (i * sz+k)]? else cur.toList[i' * sz+c']?:=by
     rw [List.getElem?_take,if_pos hlt]
     simp only [cur']
     exact hsp2 _
    have huniq:i * sz+k≤i' * sz+c'→i' * sz+c'<i * sz+k+ds.length→i=i':=by
     intro h1 h2
     have e2:(i' * sz+c') / sz=i':=by rw [Nat.mul_comm,Nat.mul_add_div hsz,Nat.div_eq_of_lt (by omega),Nat.add_zero]
     obtain ⟨q,hq⟩ : ∃ q,i' * sz+c'=i * sz+q:=⟨i' * sz+c' - i * sz,by omega⟩
     have hqs:q<sz:=by omega
     have e1:(i * sz+q) / sz=i:=by rw [Nat.mul_comm,Nat.mul_add_div hsz,Nat.div_eq_of_lt hqs,Nat.add_zero]
     rw [← e1,← hq,e2]
    by_cases hin:i * sz+k≤i' * sz+c'∧i' * sz+c'<i * sz+k+ds.length
    ·have hii:=huniq hin.1 hin.2
     subst hii
     rw [List.getElem?_set,if_pos rfl,if_pos hil] at k1
     cases k1
     rw [hspg,if_pos (by omega)] at k2
     obtain ⟨a',h1,h2⟩:=hdg _ _ k2
     obtain ⟨u,h3,_,h5⟩:=hvg _ _ h1
     refine ⟨u,?_,(KQ h2 h5).mono hbs (fun _ h=>h)⟩
     rw [hget,if_pos hin,show i * sz+c' - (i * sz+k)=c' - k by omega,Array.getElem?_toList]
     exact h3
    ·have hold : ∃ row0,xs[i']? = some row0∧row0[c']? = some d':=by
      rw [List.getElem?_set] at k1
      split at k1
      ·rename_i hii; subst hii
       cases k1
       rw [hspg] at k2
       split at k2
       ·exact absurd (by omega) hin
       ·exact ⟨row,hrow,k2⟩
      ·exact ⟨row',k1,k2⟩
     obtain ⟨row0,k3,k4⟩:=hold
     obtain ⟨u,k5,k6⟩:=hcells _ _ _ _ k3 k4
     refine ⟨u,?_,k6.mono hbs (fun _ h=>h)⟩
     rw [hget,if_neg hin]
     rw [← k5,← htake,List.getElem?_take,if_pos hlt])
 unfold Oper.wp execOp
 rw [ho]
 simp only [hx2,Sem.run_bind,hrun,Result.andThen_ok,Sem.run_pure]
 exact hK undef _ hup.1 hup.2 (by simp only [hH]; exact BV _ _ _) hn (.any _)
theorem O9 {α:Type} {f:α→List RV} {t:TypeId} {x y:Operand} {id g k m:Nat} {e:TypeId} {sz:Nat} {l:List α} {z:Int} {a v:α} {b:AV} {ds:List RV} (ho:o.op = .store t x y) (ht : ∃ i,P.info? t=some i∧i.size=m)
  (hx:Ev true R x (.ptr id g z.toNat k)) (hh:hget h id=some (.arr g e sz (l.map f))) (hi:Ak l z=some a) (hy:Ev true R y b) (hd:HX b=some ds) (hm:ds.length=m) (hk:Nat.ble (k+ds.length) (f a).length=true) (hv:Gg (f a) k ds=f v) :
  A2 P true o R h n .any ((id,some (.arr g e sz ((l.set z.toNat v).map f))) :: h) n:=by
 have:=Pk (n:=n) ho ht hx hh (row:=f a) (by rw [List.getElem?_map,(Cv hi).2.1]; rfl) hy hd hm (Nat.le_of_ble_eq_true hk)
 rwa [hv,← List.map_set] at this
end
section
variable {P:Program} {c:Bool} {o:Oper} {R:Aj} {h:AZ} {n:Nat}
variable {α:Type} {f:α→List RV}
end
section
variable {P:Program} {c:Bool} {o:Oper} {R:Aj} {h:AZ} {n:Nat}
end
section
variable {P:Program} {c:Bool} {o:Oper} {R:Aj} {h:AZ} {n:Nat}
end
section
variable {P:Program} {c:Bool} {o:Oper} {R:Aj} {h:AZ}
end
open Go.ChangeMaps (setBlock)
open Go.MapKept Go.RowKit
def Ac {α:Type} (l:List (Int × α)) (k:Int):Nat:=(Ad l k).getD l.length
theorem Kv {α β:Type} (rd:α→β) (m:List (Int × α)) (j:Nat):(AM rd m)[j]? = (m[j]?).map fun p=>(p.1,rd p.2):=by simp [AM]
theorem IX {α β:Type} (rd:α→β) (m:List (Int × α)):(AM rd m).length=m.length:=by simp [AM]
theorem GA {α β:Type} (rd:α→β) (m:List (Int × α)) (k:Int):Ad (AM rd m) k=Ad m k:=Jg (fun p=>(p.1,rd p.2)) (fun _=>rfl) m k
theorem Ia {α β:Type} (rd:α→β) (m:List (Int × α)) (k:Int):Ac (AM rd m) k=Ac m k:=by unfold Ac; rw [GA,IX]
theorem FH {α:Type} {m:List (Int × α)} {k:Int} {v:α} (h:AN m k=some v):Ad m k=some (Ac m k)∧m[Ac m k]? = some (k,v):=by
 cases hj:Ad m k with
 | none=>rw [(CY hj).1] at h; cases h
 | some j=>
  obtain ⟨w,h1,h2,_⟩:=Bm hj
  rw [h] at h2; cases h2
  unfold Ac
  rw [hj]
  exact ⟨rfl,h1⟩
theorem NU {α:Type} {m:List (Int × α)} {k:Int} {v w:α} (h:AN m k=some v) (q:Int):Ad (Ai m k w) q=Ad m q:=by
 induction m with
 | nil=>cases h
 | cons p r ih=>
  unfold AN at h
  unfold Ai
  split at h
  ·rename_i hk
   rw [if_pos hk]
   subst hk
   rfl
  ·rename_i hk
   rw [if_neg hk]
   show (if q=p.1 then some 0 else (Ad (Ai r k w) q).map (· + 1))=(if q=p.1 then some 0 else (Ad r q).map (· + 1))
   rw [ih h]
theorem NX {α:Type} {m:List (Int × α)} {k:Int} {v w:α} (h:AN m k=some v):(Ai m k w).length=m.length:=by
 obtain ⟨h1,_⟩:=FH h
 obtain ⟨_,_,_,h2⟩:=Bm h1
 rw [h2,List.length_set]
theorem Du {α:Type} {m:List (Int × α)} {k:Int} {v w:α} (h:AN m k=some v) (q:Int):Ac (Ai m k w) q=Ac m q:=by
 unfold Ac; rw [NU h,NX h]
section
variable {P:Program} {c:Bool} {o:Oper} {R:Aj} {h:AZ} {n:Nat}
theorem Mn {x:Cx} (hok:x.ok) {id g ve:Nat} {e:TypeId} {l:List (Int × List RV)} {v:Value} (hH:x.H id=some (.mb g ve e l)) (hv:AS x (.mref id g) v) :
  ∃ (b:Nat) (es:List MapEntry),x.β id=some (b,1)∧v = .map (some b)∧DC l es∧x.w.heap[b]? = some (.map es.toArray l.length)∧ve<x.n ∧ ∀ (j:Nat) (k:Int) (cs:List RV) (m:MapEntry),l[j]? = some (k,cs)→es[j]? = some m →
   ∃ bb cur,x.K id j=some (bb,1)∧m.val = .pointer (some ⟨bb,0,none⟩)∧x.w.heap[bb]? = some (.cells cur e (0,0))∧cur.size=cs.length ∧ ∀ (i:Nat) (c:RV),cs[i]? = some c → ∃ u:Value,cur[i]? = some u∧u.oneCell'=true∧Av x.w x.S c u:=by
 obtain ⟨_,h0,b,es,h1,h2,h3,h4⟩:=hok.obj _ _ hH
 cases hv with
 | mref _ _ hv=>
  obtain ⟨b',cap,k1,k2⟩:=hv _ hH rfl
  rw [h1] at k1
  simp only [Option.some.injEq,Prod.mk.injEq] at k1
  obtain ⟨rfl,rfl⟩:=k1
  exact ⟨b,es,h1,k2,⟨h3,fun j k d hj=>by obtain ⟨m,_,_,e1,e2,e3,_⟩:=h4 j k d hj; exact ⟨m,e1,e2,e3⟩⟩,h2,h0,fun j k d m hj hm=>by
   obtain ⟨m',bb,cur,e1,_,_,e4⟩:=h4 j k d hj
   rw [hm] at e1; cases e1; exact ⟨bb,cur,e4⟩⟩
theorem Rr {t:TypeId} (id:Nat) (e:TypeId) (ho:o.op = .makeMap t none):A2 P c o R h n (.mref id n) ((id,some (.mb n n e [])) :: h) (n+1):=by
 intro hc z w hok hH hn he K Q hK
 have hup:=F2 hok id (.mb z.n z.n e []) (z.w.alloc (.map #[] 0)) (some (z.w.heap.size,1)) (fun _=>none) (z.n+1) (by simp) rfl rfl rfl
  (fun b hb _=>heap_alloc_old _ _ hb) (fun b k hb=>by cases hb; simp) (fun j b k hb=>by cases hb) (by omega) (by simp [AY.gen]) (fun hg=>absurd hg (by simp [AY.gen,AY.isCal])) (fun _ hg=>absurd hg (by simp [AY.gen]))
  (fun hle=>⟨Nat.lt_succ_self _,z.w.heap.size,[],rfl,heap_alloc_new _ _,rfl,fun j k d hj=>by simp at hj⟩)
 unfold Oper.wp execOp
 rw [ho]
 simp only [Option.map_none,Sem.run_bind,run_makeMap,Result.andThen_ok,Sem.run_pure]
 refine hK (.map (some z.w.heap.size)) _ hup.1 hup.2 (by simp only [hH,hn]; exact BV _ _ _) (by simp [hn]) (.mref (by simp [hn]) rfl fun o' ho' _=>?_)
 exact ⟨z.w.heap.size,1,by simp,rfl⟩
theorem KV {x:Cx} (hok:x.ok) {id g ve j:Nat} {e:TypeId} {l:List (Int × List RV)} {v:Value} (hH:x.H id=some (.mb g ve e l)) (hve:ve<x.n) (h1:v.oneCell'=true)
  (h : ∀ q cs b c,l[j]? = some (q,cs)→x.K id j=some (b,c)→v = .pointer (some ⟨b,0,none⟩)):AS x (.pk id g ve j 0) v:=by
 refine .pk (hok.obj _ _ hH).1 hve h1 fun o b c q m ho _ hg hvr hs hK=>?_
 rw [hH] at ho; cases ho
 simp only [AY.kshape,List.getElem?_map,Option.map_eq_some_iff,Prod.mk.injEq] at hs
 obtain ⟨p,h2,rfl,_⟩:=hs
 exact h _ _ b c h2 hK
theorem Rp {α:Type} {row:α→List RV} {t kt et:TypeId} {x i:Operand} {id g ve:Nat} {e:TypeId} {m:List (Int × α)} {k:Int} (ok:Bool) (ho:o.op = .lookup t x i ok) (ht:P.underlying t=some (.map kt et))
  (hk:P.underlying kt=some (.int .i64)) (hz : ∀ w,(zeroValue et).run P w = .ok (.pointer none) w) (hx:Ev c R x (.mref id g)) (hi:Ev c R i (.r (.int .i64 k))) (hh:hget h id=some (.mb g ve e (AM row m))) :
  AC P c o R h (match ok with | true=>.tup [.pk id g ve (Ac m k) 0,.r (.bool (AN m k).isSome)] | false=>.pk id g ve (Ac m k) 0):=by
 intro hc y w hok hH he
 have hHid:y.H id=some (.mb g ve e (AM row m)):=by rw [hH]; exact hh
 obtain ⟨b,es,h1,h2,h3,h4,h0,h5⟩:=Mn hok hHid (hx.rep he hc)
 have hiv:=hi.rep he hc
 generalize hiw:w.eval i=iv at hiv
 cases hiv with
 | r hiv=>
  cases hiv with
  | int=>
   have hb2 : ∀ w2:World,Bo y w2→w2.heap[b]? = some (.map es.toArray (AM row m).length):=fun w2 hag=>by rw [hag b (.inr ⟨id,_,1,hHid,.inl h1⟩)]; exact h4
   cases hj:Ad (AM row m) k with
   | none=>
    have hj2:Ad m k=none:=by rw [← GA row]; exact hj
    rw [(CY hj2).1]
    have hr:AS y (.pk id g ve (Ac m k) 0) (.pointer none):=KV hok hHid h0 rfl fun q cs b c hq _=>by
     unfold Ac at hq
     rw [hj2] at hq
     have:=(List.getElem?_eq_some_iff.1 hq).1
     simp [IX] at this
    refine ⟨match ok with | true=>.tuple #[.pointer none,.bool false] | false=>.pointer none,fun w2 hag=>?_,?_⟩
    ·simp only [execOp,ho,h2,hiw,Sem.run_bind,GJ h3 ht hk (hb2 w2 hag) k _ (hz w2) ok,hj,Result.andThen_ok,Sem.run_pure]
     cases ok <;> simp
    ·cases ok
     ·exact hr
     ·refine .tup rfl fun q a' u' e1 e2=>?_
      rcases q with _ | _ | q
      ·simp at e1 e2; subst e1; subst e2; exact hr
      ·simp at e1 e2; subst e1; subst e2; exact .r (.bool _)
      ·simp at e1
   | some j=>
    have hj2:Ad m k=some j:=by rw [← GA row]; exact hj
    obtain ⟨v,e1,e2,_⟩:=Bm hj2
    have e1':(AM row m)[j]? = some (k,row v):=by rw [Kv,e1]; rfl
    obtain ⟨mm,e3,_⟩:=h3.2 j k _ e1'
    obtain ⟨bb,cur,f1,f2,_⟩:=h5 j k _ mm e1' e3
    have hD:Ac m k=j:=by unfold Ac; rw [hj2]; rfl
    rw [e2,hD]
    have hr:AS y (.pk id g ve j 0) mm.val:=KV hok hHid h0 (by rw [f2]; rfl) fun q cs b c hq hK=>by
     rw [f1] at hK; cases hK; exact f2
    refine ⟨match ok with | true=>.tuple #[mm.val,.bool true] | false=>mm.val,fun w2 hag=>?_,?_⟩
    ·simp only [execOp,ho,h2,hiw,Sem.run_bind,GJ h3 ht hk (hb2 w2 hag) k _ (hz w2) ok,hj,e3,Result.andThen_ok,Sem.run_pure]
     cases ok <;> simp
    ·cases ok
     ·exact hr
     ·refine .tup rfl fun q a' u' e1 e2=>?_
      rcases q with _ | _ | q
      ·simp at e1 e2; subst e1; subst e2; exact hr
      ·simp at e1 e2; subst e1; subst e2; exact .r (.bool _)
      ·simp at e1
theorem H5 {x:Cx} (hok:x.ok) {id g ve j k:Nat} {e:TypeId} {l:List (Int × List RV)} {q:Int} {cs:List RV} {v:Value} (hH:x.H id=some (.mb g ve e l)) (hv:AS x (.pk id g ve j k) v) (hj:l[j]? = some (q,cs)) :
  ∃ bb cur,x.K id j=some (bb,1)∧v = .pointer (some ⟨bb,k,none⟩)∧x.w.heap[bb]? = some (.cells cur e (0,0))∧cur.size=cs.length ∧ ∀ (i:Nat) (c:RV),cs[i]? = some c → ∃ u:Value,cur[i]? = some u∧u.oneCell'=true∧Av x.w x.S c u:=by
 obtain ⟨_,h0,b,es,h1,h2,h3,h4⟩:=hok.obj _ _ hH
 obtain ⟨m,bb,cur,e1,e2,e3,e4,e5,e6,e7,e8⟩:=h4 j q cs hj
 cases hv with
 | pk _ _ _ hp=>
  exact ⟨bb,cur,e4,hp _ bb 1 q cs.length hH rfl rfl rfl (by simp [AY.kshape,hj]) e4,e6,e7,e8⟩
theorem OX {t:TypeId} {x:Operand} {f off:Nat} {id g ve j k:Nat} {e:TypeId} {l:List (Int × List RV)} (ho:o.op = .fieldAddr t x f) (ht:BF P t f off) (hx:Ev c R x (.pk id g ve j k)) (hh:hget h id=some (.mb g ve e l)) (hj:c=true→(l[j]?).isSome=true) :
  AC P c o R h (.pk id g ve j (k+off)):=by
 intro hc z w hok hH he
 obtain ⟨fs,fl,ii,h1,h2,h3,h4,h5⟩:=ht
 have hHid:z.H id=some (.mb g ve e l):=by rw [hH]; exact hh
 obtain ⟨⟨q,cs⟩,hj'⟩:=Option.isSome_iff_exists.1 (hj hc)
 have hv:=hx.rep he hc
 obtain ⟨bb,cur,k1,k2,k3,_⟩:=H5 hok hHid hv hj'
 have hve:ve<z.n:=by cases hv; assumption
 refine ⟨.pointer (some ⟨bb,k+off,none⟩),fun w2 hag=>?_,.pk (hok.obj _ _ hHid).1 hve rfl fun o b c q m ho _ hg hvr hs hK=>?_⟩
 ·unfold execOp
  rw [ho]
  simp [k2,Instr.fieldAt,run_underlying h1,h2,Instr.sureAddr,fieldPlace,C1 h4,h5,h3,Addr.add_lit]
 ·rw [k1] at hK; cases hK; rfl
theorem LW {x:Cx} {w2:World} (hag:Bo x w2) {id j bb:Nat} {o:AY} (hH:x.H id=some o) (hK:x.K id j=some (bb,1)) {cur:Array Value} {e:TypeId} (hh:x.w.heap[bb]? = some (.cells cur e (0,0))) (k:Nat):w2.cell? ⟨bb,k,none⟩=cur[k]?:=by
 have:w2.heap[bb]? = some (.cells cur e (0,0)):=by rw [hag bb (.inr ⟨id,_,1,hH,.inr ⟨j,hK⟩⟩)]; exact hh
 exact cell_of_row _ bb k cur e _ this
theorem N3 {t:TypeId} {x:Operand} {id g ve j k:Nat} {e:TypeId} {l:List (Int × List RV)} {q:Int} {cs:List RV} {d:RV} (ho:o.op = .load t x) (ht:BP P t) (hx:Ev c R x (.pk id g ve j k)) (hh:hget h id=some (.mb g ve e l))
  (hj:c=true→l[j]? = some (q,cs)) (hd:cs[k]? = some d):AC P c o R h (.r d):=by
 intro hc z w hok hH he
 have hHid:z.H id=some (.mb g ve e l):=by rw [hH]; exact hh
 obtain ⟨bb,cur,k1,k2,k3,k4,k5⟩:=H5 hok hHid (hx.rep he hc) (hj hc)
 obtain ⟨u,e1,e2,e3⟩:=k5 k d hd
 refine ⟨u,fun w2 hag=>?_,.r e3⟩
 unfold execOp
 rw [ho]
 simp [k2,IR ht ((LW hag hHid k1 k3 k).trans e1)]
theorem R6 {t:TypeId} {x:Operand} {id g ve j sz:Nat} {e:TypeId} {l:List (Int × List RV)} {q:Int} {cs:List RV} (ho:o.op = .load t x) (ht:B0 P t sz) (hx:Ev c R x (.pk id g ve j 0)) (hh:hget h id=some (.mb g ve e l))
  (hj:c=true→l[j]? = some (q,cs)) (hl:cs.length=sz):AC P c o R h (.agg (cs.map .r)):=by
 intro hc z w hok hH he
 have hHid:z.H id=some (.mb g ve e l):=by rw [hH]; exact hh
 obtain ⟨bb,cur,k1,k2,k3,k4,k5⟩:=H5 hok hHid (hx.rep he hc) (hj hc)
 refine ⟨.agg ((List.range sz).map fun j=>cur.getD j undef).toArray,fun w2 hag=>?_,Fb (by simpa using hl) _ fun j a hj=>?_⟩
 ·unfold execOp
  rw [ho]
  simp [k2,FL ht (fun j=>cur.getD j undef) (fun j hj=>by
   rw [Nat.zero_add,LW hag hHid k1 k3 j]
   have:j<cur.size:=by omega
   simp [this])]
 ·rw [List.getElem?_map,Option.map_eq_some_iff] at hj
  obtain ⟨d,hd,rfl⟩:=hj
  obtain ⟨u,e1,_,e3⟩:=k5 j d hd
  simpa [e1] using (AS.r e3:AS z (.r d) u)
theorem Qt {t:TypeId} {x y:Operand} {id g ve j k:Nat} {e:TypeId} {l:List (Int × List RV)} {q:Int} {cs:List RV} {d:RV} (ho:o.op = .store t x y) (ht : ∃ i,P.info? t=some i∧i.size=1) (hx:Ev c R x (.pk id g ve j k)) (hh:hget h id=some (.mb g ve e l))
  (hj:l[j]? = some (q,cs)) (hk:Nat.blt k cs.length=true) (hy:Ev c R y (.r d)):A2 P c o R h n .any ((id,some (.mb g ve e (l.set j (q,cs.set k d)))) :: h) n:=by
 intro hc z w hok hH hn he K Q hK
 obtain ⟨ii,hi,hisz⟩:=ht
 have hHid:z.H id=some (.mb g ve e l):=by rw [hH]; exact hh
 have hx':=hx.rep he hc
 obtain ⟨bb,cur,k1,k2,k3,k4,k5⟩:=H5 hok hHid hx' hj
 have hkl:=Bd hk
 have hyv:=hy.rep he hc
 generalize hyw:w.eval y=v at hyv
 cases hyv with
 | r hyr=>
 have hone:=hyr.one
 have hcl:v.cells = #[v]:=by cases v <;> first | rfl | (simp [Value.oneCell'] at hone)
 have hrun:=IU (P:=P) (k:=k) hi k3 (v:=v) (by rw [hcl]; exact hisz.symm) (by rw [hcl]; intro u hu; simp at hu; subst hu; exact hone) (by rw [hcl]; show k+1≤_; omega)
 obtain ⟨hgn,hve,b,es,h1,h2,h3,h4⟩:=hok.obj _ _ hHid
 have hbb:bb<z.w.heap.size:=(hok.ext id _ j bb 1 hHid k1).1
 have hjl:j<l.length:=(List.getElem?_eq_some_iff.1 hj).1
 generalize hrow:(cur.toList.take k++v.cells.toList++cur.toList.drop (k+v.cells.size)).toArray=row' at hrun
 have hget' : ∀ i,row'[i]? = if k=i then some v else cur[i]?:=by
  intro i
  rw [← hrow,List.getElem?_toArray]
  have hsp2:=FX cur.toList v.cells.toList k i (by rw [hcl]; simp; omega)
  rw [Array.length_toList] at hsp2
  rw [hsp2,hcl]
  by_cases hki:k=i
  ·subst hki; simp
  ·rw [if_neg (by simp; omega),if_neg hki]; simp
 have hsize':row'.size=cur.size:=by rw [← hrow,hcl]; simp; omega
 have hup:=F2 hok id (.mb g ve e (l.set j (q,cs.set k d))) (z.w.setRow bb row') (some (b,1)) (z.K id) z.n (by simp [World.setRow]) rfl rfl rfl
  (fun b' _ hne=>setRow_other _ _ _ _ (fun e=>hne _ hHid (.inr ⟨j,1,by rw [e]; exact k1⟩)))
  (fun b' k' hb=>by cases hb; exact ⟨by simpa [World.setRow] using (hok.own id _ b 1 hHid h1).1,.inr ⟨_,hHid,.inl ⟨1,h1⟩⟩⟩)
  (fun j' b' k' hb=>⟨⟨by simpa [World.setRow] using (hok.ext id _ j' b' k' hHid hb).1,.inr ⟨_,hHid,.inr ⟨j',k',hb⟩⟩⟩,fun k2 hb2=>by cases hb2; exact (hok.ext id _ j' b k' hHid hb).2.2.2.1 id _ 1 hHid h1,fun j2 k2 hb2=>((hok.ext id _ j' b' k' hHid hb).2.2.2.2 id _ j2 k2 hHid hb2).2⟩)
  (Nat.le_refl _) hgn (fun _=>⟨_,hHid,rfl,rfl,h1.symm⟩)
  (fun _ _ _=>⟨_,hHid,rfl,rfl,rfl,by
   simp only [AY.kshape]
   rw [List.map_set]
   refine (List.ext_getElem? fun i=>?_)
   by_cases hi:j=i
   ·subst hi; rw [List.getElem?_set_self (by simpa using hjl)]; simp [hj]
   ·rw [List.getElem?_set_ne hi],rfl⟩)
  (fun hle=>⟨hve,b,es,rfl,by
   have hne:bb≠b:=fun e=>(hok.ext id _ j bb 1 hHid k1).2.2.2.1 id _ 1 hHid (by rw [e]; exact h1)
   exact (show (z.w.setRow bb row').heap[b]? = z.w.heap[b]? from setRow_other _ _ _ _ (fun e=>hne e.symm)).trans (by rw [h2,List.length_set]),by rw [h3,List.length_set],fun i k' cs' hi=>by
   by_cases hij:j=i
   ·subst hij
    rw [List.getElem?_set_self hjl] at hi
    cases hi
    obtain ⟨m,b2,cur2,e1,e2,e3,e4,e5,e6,e7,e8⟩:=h4 j q cs hj
    rw [k1] at e4; cases e4
    refine ⟨m,bb,row',e1,e2,e3,k1,e5,setRow_heap _ _ _ _ _ _ k3,by rw [hsize',k4,List.length_set],fun i c hic=>?_⟩
    rw [hget']
    by_cases hki:k=i
    ·subst hki
     rw [List.getElem?_set_self hkl] at hic
     cases hic
     exact ⟨v,if_pos rfl,hone,hyr.mono (fun b hb=>hle.blk b (.inl hb)) hle.S⟩
    ·rw [List.getElem?_set_ne hki] at hic
     obtain ⟨u,f1,f2,f3⟩:=k5 i c hic
     exact ⟨u,by rw [if_neg hki]; exact f1,f2,f3.mono (fun b hb=>hle.blk b (.inl hb)) hle.S⟩
   ·rw [List.getElem?_set_ne hij] at hi
    obtain ⟨m,b2,cur2,e1,e2,e3,e4,e5,e6,e7,e8⟩:=h4 i k' cs' hi
    refine ⟨m,b2,cur2,e1,e2,e3,e4,e5,?_,e7,fun i' c hic=>by
     obtain ⟨u,f1,f2,f3⟩:=e8 i' c hic
     exact ⟨u,f1,f2,f3.mono (fun b hb=>hle.blk b (.inl hb)) hle.S⟩⟩
    have hne:bb≠b2:=fun e=>hij (((hok.ext id _ j bb 1 hHid k1).2.2.2.2 id _ i 1 hHid (by rw [e]; exact e4)).2).symm
    exact (show (z.w.setRow bb row').heap[b2]? = z.w.heap[b2]? from setRow_other _ _ _ _ (fun e=>hne e.symm)).trans e6⟩)
 unfold Oper.wp execOp
 rw [ho]
 simp only [k2,hyw,Sem.run_bind,hrun,Result.andThen_ok,Sem.run_pure]
 exact hK undef _ hup.1 hup.2 (by simp only [hH]; exact BV _ _ _) hn (.any _)
theorem P8 {α:Type} {row:α→List RV} {t kt et:TypeId} {x i y:Operand} {id g ve id' g':Nat} {e:TypeId} {m:List (Int × α)} {k:Int} {a:α} (ho:o.op = .mapUpdate t x i y∨o.op = .insert t x i y) (ht:P.underlying t=some (.map kt et)) (hk:P.underlying kt=some (.int .i64))
  (hx:Ev c R x (.mref id g)) (hi:Ev c R i (.r (.int .i64 k))) (hy:Ev c R y (.ptr id' g' 0 0)) (hh:hget h id=some (.mb g ve e (AM row m))) (hb:hget h id'=some (.box g' e ((row a).map .r))) :
  A2 P c o R h n .any ((id,some (.mb g n e (AM row (Ai m k a)))) :: (id',none) :: h) (n+1):=by
 intro hc z w hok hH hn he K Q hK
 have hHid:z.H id=some (.mb g ve e (AM row m)):=by rw [hH]; exact hh
 have hHid':z.H id'=some (.box g' e ((row a).map .r)):=by rw [hH]; exact hb
 have hne:id≠id':=fun e=>by rw [e] at hHid; rw [hHid] at hHid'; cases hHid'
 obtain ⟨b,es,h1,h2,h3,h4,h0,h5⟩:=Mn hok hHid (hx.rep he hc)
 obtain ⟨bb,cur,p1,p2,p3,p4,p5⟩:=FB hok hHid' (hy.rep he hc)
 have hiv:=hi.rep he hc
 generalize hiw:w.eval i=iv at hiv
 cases hiv with
 | r hiv=>
  cases hiv with
  | int=>
   have hblt:=(hok.own id _ b 1 hHid h1).1
   have hbblt:=(hok.own id' _ bb 1 hHid' p1).1
   have hbne:b≠bb:=fun e=>hne (hok.inj id id' _ _ b 1 1 hHid hHid' h1 (by rw [e]; exact p1))
   obtain ⟨q1,q2,q3⟩:=M9 h3 k (w.eval y) (row a)
   rw [Is] at q1 q2 q3
   rw [GA] at q1 q2 q3
   generalize hes:CW es k (Ad m k) (w.eval y)=es' at q1 q2 q3
   have hKne : ∀ j b' c,z.K id j=some (b',c)→b'≠bb:=fun j b' c hK2 e=>(hok.ext id _ j b' c hHid hK2).2.2.2.1 id' _ 1 hHid' (by rw [e]; exact p1)
   have hup:=Sn hok id id' (.mb g z.n e (AM row (Ai m k a))) { z.w with heap:=z.w.heap.setIfInBounds b (.map es'.toArray es'.length) } (some (b,1)) (fun j=>if j=Ac m k then some (bb,1) else z.K id j) (z.n+1) (by simp) rfl rfl rfl
    (fun b' _ hno=>by
     have:b≠b':=fun e=>hno id _ (.inl rfl) hHid (.inl ⟨1,by rw [← e]; exact h1⟩)
     simp [this])
    (fun b' k' hb'=>by cases hb'; exact ⟨by simpa using hblt,.inr ⟨id,_,.inl rfl,hHid,.inl ⟨1,h1⟩⟩⟩)
    (fun j b' k' hb'=>by
     split at hb'
     ·rename_i hj
      cases hb'
      refine ⟨⟨by simpa using hbblt,.inr ⟨id',_,.inr rfl,hHid',.inl ⟨1,p1⟩⟩⟩,fun k2 hk2=>by cases hk2; exact hbne rfl,fun j2 k2 hk2=>?_⟩
      split at hk2
      ·rename_i hj2; rw [hj2,hj]
      ·exact absurd rfl (hKne j2 _ k2 hk2)
     ·rename_i hj
      have hx2:=hok.ext id _ j b' k' hHid hb'
      refine ⟨⟨by simpa using hx2.1,.inr ⟨id,_,.inl rfl,hHid,.inr ⟨j,k',hb'⟩⟩⟩,fun k2 hk2=>by cases hk2; exact hx2.2.2.2.1 id _ 1 hHid h1,fun j2 k2 hk2=>?_⟩
      split at hk2
      ·cases hk2; exact absurd rfl (hKne j _ k' hb')
      ·exact (hx2.2.2.2.2 id _ j2 k2 hHid hk2).2)
    (Nat.le_succ _) (Nat.lt_succ_of_lt (hok.obj _ _ hHid).1) (fun _=>⟨_,hHid,rfl,rfl,h1.symm⟩) (fun _ _ hv=>absurd hv (by simp [AY.ver]))
    (fun hle=>⟨Nat.lt_succ_self _,b,es',rfl,by simp [Cx.tk,hblt,q2],q2,fun j k' cs' hj=>by
     obtain ⟨mm,e1,e2,e3,e4⟩:=q3 j k' cs' hj
     have hat : ∀ b2,b2≠b→(z.tk id id' (.mb g z.n e (AM row (Ai m k a))) { z.w with heap:=z.w.heap.setIfInBounds b (.map es'.toArray es'.length) } (some (b,1)) (fun j=>if j=Ac m k then some (bb,1) else z.K id j) (z.n+1)).w.heap[b2]? = z.w.heap[b2]?:=fun b2 hb2=>by simp [Cx.tk,(Ne.symm hb2)]
     rcases e4 with ⟨hjk,rfl,rfl,e⟩ | ⟨hjk,hjl,f1,f2⟩
     ·have hjD:j=Ac m k':=by
       unfold Ac
       rcases hjk with hjk | ⟨hjk,rfl⟩
       ·rw [hjk]; rfl
       ·rw [hjk]; simp [IX]
      refine ⟨mm,bb,cur,e1,e2,e3,if_pos hjD,by rw [e]; exact p2,(hat bb (Ne.symm hbne)).trans p3,by rw [p4]; simp,fun i c hic=>?_⟩
      obtain ⟨u,g1,g2,g3⟩:=p5 i (.r c) (by rw [List.getElem?_map,hic]; rfl)
      cases g3 with
      | r g3=>exact ⟨u,g1,g2,g3.mono (fun b hb=>hle.blk b (.inl hb)) hle.S⟩
     ·obtain ⟨b2,cur2,g1,g2,g3,g4,g5⟩:=h5 j k' cs' mm f1 f2
      have hjD:j≠Ac m k:=fun e=>by
       unfold Ac at e
       cases hq:Ad m k with
       | none=>rw [hq] at e; simp at e; rw [IX] at hjl; omega
       | some j0=>rw [hq] at e hjk; simp at e; exact hjk (by rw [e])
      refine ⟨mm,b2,cur2,e1,e2,e3,(if_neg hjD).trans g1,g2,(hat b2 fun e=>(hok.ext id _ j b2 1 hHid g1).2.2.2.1 id _ 1 hHid (by rw [e]; exact h1)).trans g3,g4,fun i c hic=>?_⟩
      obtain ⟨u,k1,k2,k3⟩:=g5 i c hic
      exact ⟨u,k1,k2,k3.mono (fun b hb=>hle.blk b (.inl hb)) hle.S⟩⟩)
   have hrun:=Id h3 ht hk h4 k (w.eval y)
   rw [GA,hes] at hrun
   unfold Oper.wp execOp
   rcases ho with ho | ho <;>
   ·rw [ho]
    simp only [h2,hiw,Sem.run_bind,hrun,Result.andThen_ok,Sem.run_pure]
    exact hK undef _ hup.1 hup.2 (by rw [← RP,← hH,← hn]; rfl) (by show z.n+1=n+1; rw [hn]) (.any _)
end
end Go.Proofs.Ytelkfhdgmbahgaa.Al

namespace Go.Proofs.Ytelkfhdgmbahgaa.Al
open Go.ChangeMaps (setBlock)
open Go.MapKept Go.RowKit
theorem It {α:Type} (m:List (Int × α)) (k:Int) (v:α):Ad (Ai m k v) k=some (Ac m k):=by
 unfold Ac
 cases h:Ad m k with
 | none=>
  rw [(CY h).2]
  have : ∀ (l:List (Int × α)),Ad l k=none→Ad (l++[(k,v)]) k=some l.length:=by
   intro l
   induction l with
   | nil=>intro _; simp [Ad]
   | cons p r ih=>
    intro h
    unfold Ad at h
    split at h
    ·cases h
    ·rename_i hk
     have h2:Ad r k=none:=by cases hr:Ad r k with | none=>rfl | some j=>rw [hr] at h; cases h
     show (if k=p.1 then some 0 else (Ad (r++[(k,v)]) k).map (· + 1))=_
     rw [if_neg hk,ih h2]; simp
  rw [this m h]; rfl
 | some j=>
  obtain ⟨w,h1,h2,h3⟩:=Bm h
  have:=NU (w:=v) h2 k
  rw [this,h]; rfl
theorem DV {α:Type} (m:List (Int × α)) (k:Int) (v:α):AN (Ai m k v) k=some v:=by
 induction m with
 | nil=>simp [Ai,AN]
 | cons p r ih=>
  unfold Ai
  split
  ·simp [AN]
  ·rename_i hk
   show (if k=p.1 then some p.2 else AN (Ai r k v) k)=_
   rw [if_neg hk,ih]
theorem RT {α:Type} {l:List (Int × α)} {k:Int} {j:Nat} (h:Ad l k=some j):Ad (l.take j) k=none:=by
 induction l generalizing j with
 | nil=>cases h
 | cons p r ih=>
  unfold Ad at h
  split at h
  ·cases h; rfl
  ·rename_i hk
   rw [Option.map_eq_some_iff] at h
   obtain ⟨j',h1,rfl⟩:=h
   rw [List.take_succ_cons]
   unfold Ad
   rw [if_neg hk,ih h1]; rfl
section
variable {P:Program} {c:Bool} {o:Oper} {R:Aj} {h:AZ} {n:Nat}
def MP (hole:Option (Nat × Bool)) (a b:Nat):Prop:=match hole with
 | some (j,true)=>a=b+1∧j=b
 | _=>a=b
def Ek (x:Cx) (id j:Nat) (e:TypeId) (sz:Nat) (xs:List (List RV)) (bb cap:Nat) (us:List Value):Prop:=
 (∀ row∈xs,row.length=sz)∧x.K id j=some (bb,cap)∧x.w.ownsRow 0 e sz (.slice (some ⟨bb,0,none⟩) xs.length cap) xs.length us ∧ ∀ i row c d,xs[i]? = some row→row[c]? = some d → ∃ u,us[i * sz+c]? = some u∧Av x.w x.S d u
theorem FC {x:Cx} (hok:x.ok) {id g ve:Nat} {e:TypeId} {sz:Nat} {hole:Option (Nat × Bool)} {l:List (Int × List (List RV))} (hH:x.H id=some (.mr g ve e sz hole l)) :
  0<sz∧ve<x.n ∧ ∃ (b:Nat) (es:List MapEntry),x.β id=some (b,1)∧x.w.heap[b]? = some (.map es.toArray es.length)∧MP hole l.length es.length ∧
   ∀ (j:Nat) (k:Int) (xs:List (List RV)),l[j]? = some (k,xs) → ∃ bb cap us,Ek x id j e sz xs bb cap us∧(hole=some (j,true) ∨ ∃ m,es[j]? = some m∧m.key = .int .i64 k∧m.born=j∧(hole=some (j,false)∨m.val = .slice (some ⟨bb,0,none⟩) xs.length cap)):=by
 obtain ⟨_,h0,hv,b,es,h1,h2,h3,h4⟩:=hok.obj _ _ hH
 exact ⟨h0,hv,b,es,h1,h2,h3,fun j k xs hj=>by
  obtain ⟨e1,bb,cap,us,e2,e3,e4,e5⟩:=h4 j k xs hj
  exact ⟨bb,cap,us,⟨e1,e2,e3,e4⟩,e5⟩⟩
theorem LX {x:Cx} {id g ve b:Nat} {e:TypeId} {sz:Nat} {hole:Option (Nat × Bool)} {l:List (Int × List (List RV))} {v:Value} (hH:x.H id=some (.mr g ve e sz hole l)) (hv:AS x (.mref id g) v) (h1:x.β id=some (b,1)):v = .map (some b):=by
 cases hv with
 | mref _ _ hv=>
  obtain ⟨b',cap,k1,k2⟩:=hv _ hH rfl
  rw [h1] at k1
  simp only [Option.some.injEq,Prod.mk.injEq] at k1
  obtain ⟨rfl,rfl⟩:=k1
  exact k2
theorem LP {g v:Nat} {e:TypeId} {sz:Nat} {hole:Option (Nat × Bool)} {l:List (Int × List (List RV))} (k:Int):Ad (AY.mr g v e sz hole l).kshape k=Ad l k:=Jg (fun p:Int × List (List RV)=>(p.1,some p.2.length)) (fun _=>rfl) l k
theorem KJ {x:Cx} (hok:x.ok) {id g ve:Nat} {e:TypeId} {sz:Nat} {hole:Option (Nat × Bool)} {l:List (Int × List (List RV))} {k:Int} {v:Value} (hH:x.H id=some (.mr g ve e sz hole l)) (h1:v.oneCell'=true)
  (h2:Ad l k=none→v = .slice none 0 0) (h3 : ∀ j xs b c,Ad l k=some j→l[j]? = some (k,xs)→x.K id j=some (b,c)→v = .slice (some ⟨b,0,none⟩) xs.length c):AS x (.fo id g ve k) v:=by
 obtain ⟨h0,hv,_⟩:=FC hok hH
 refine .fo (hok.obj _ _ hH).1 hv h1 fun o ho _ hg hvr=>?_
 rw [hH] at ho; cases ho
 rw [LP]
 refine ⟨h2,fun j q m b c hj hs hK=>?_⟩
 obtain ⟨xs,e1,_⟩:=Bm hj
 simp only [AY.kshape,List.getElem?_map,e1,Option.map_some,Option.some.injEq,Prod.mk.injEq] at hs
 rw [← hs.2]
 exact h3 j xs b c hj e1 hK
theorem HN {x:Cx} (hok:x.ok) {id g ve:Nat} {e:TypeId} {sz:Nat} {hole:Option (Nat × Bool)} {l:List (Int × List (List RV))} {k:Int} {v:Value} (hH:x.H id=some (.mr g ve e sz hole l)) (hv:AS x (.fo id g ve k) v) :
  (Ad l k=none∧v = .slice none 0 0∧AN l k=none) ∨ ∃ j xs bb cap us,Ad l k=some j∧AN l k=some xs∧l[j]? = some (k,xs)∧Ek x id j e sz xs bb cap us∧v = .slice (some ⟨bb,0,none⟩) xs.length cap:=by
 obtain ⟨h0,_,b,es,h1,h2,h3,h4⟩:=FC hok hH
 cases hv with
 | fo _ _ _ hp=>
  obtain ⟨e1,e2⟩:=hp _ hH rfl rfl rfl
  rw [LP] at e1 e2
  cases hj:Ad l k with
  | none=>exact .inl ⟨rfl,e1 hj,(CY hj).1⟩
  | some j=>
   obtain ⟨xs,k1,k2,_⟩:=Bm hj
   obtain ⟨bb,cap,us,k3,_⟩:=h4 j k xs k1
   exact .inr ⟨j,xs,bb,cap,us,rfl,k2,k1,k3,e2 j k xs.length bb cap hj (by simp [AY.kshape,k1]) k3.2.1⟩
theorem Ov {t:TypeId} (id:Nat) (e:TypeId) (sz:Nat) (ho:o.op = .makeMap t none) (hsz:Nat.blt 0 sz=true):A2 P c o R h n (.mref id n) ((id,some (.mr n n e sz none [])) :: h) (n+1):=by
 intro hc z w hok hH hn he K Q hK
 have hup:=F2 hok id (.mr z.n z.n e sz none []) (z.w.alloc (.map #[] 0)) (some (z.w.heap.size,1)) (fun _=>none) (z.n+1) (by simp) rfl rfl rfl
  (fun b hb _=>heap_alloc_old _ _ hb) (fun b k hb=>by cases hb; simp) (fun j b k hb=>by cases hb) (by omega) (by simp [AY.gen]) (fun hg=>absurd hg (by simp [AY.gen,AY.isCal])) (fun _ hg=>absurd hg (by simp [AY.gen]))
  (fun hle=>⟨Bd hsz,Nat.lt_succ_self _,z.w.heap.size,[],rfl,heap_alloc_new _ _,rfl,fun j k d hj=>by simp at hj⟩)
 unfold Oper.wp execOp
 rw [ho]
 simp only [Option.map_none,Sem.run_bind,run_makeMap,Result.andThen_ok,Sem.run_pure]
 refine hK (.map (some z.w.heap.size)) _ hup.1 hup.2 (by simp only [hH,hn]; exact BV _ _ _) (by simp [hn]) (.mref (by simp [hn]) rfl fun o' ho' _=>?_)
 exact ⟨z.w.heap.size,1,by simp,rfl⟩
theorem Se {x:Cx} {id:Nat} {e:TypeId} {sz:Nat} {l:List (Int × List (List RV))} {es:List MapEntry} (hl:l.length=es.length)
  (h4 : ∀ (j:Nat) (k:Int) (xs:List (List RV)),l[j]? = some (k,xs) → ∃ bb cap us,Ek x id j e sz xs bb cap us∧(none=some (j,true) ∨ ∃ m,es[j]? = some m∧m.key = .int .i64 k∧m.born=j∧(none=some (j,false)∨m.val = .slice (some ⟨bb,0,none⟩) xs.length cap))):DC l es:=
 ⟨hl.symm,fun j k xs hj=>by
  obtain ⟨_,_,_,_,e | ⟨m,e1,e2,e3,_⟩⟩:=h4 j k xs hj
  ·cases e
  ·exact ⟨m,e1,e2,e3⟩⟩
theorem Po {t kt et:TypeId} {x i:Operand} {id g ve:Nat} {e:TypeId} {sz:Nat} {l:List (Int × List (List RV))} {k:Int} (ho:o.op = .lookup t x i false) (ht:P.underlying t=some (.map kt et))
  (hk:P.underlying kt=some (.int .i64)) (hz : ∀ w,(zeroValue et).run P w = .ok (.slice none 0 0) w) (hx:Ev c R x (.mref id g)) (hi:Ev c R i (.r (.int .i64 k))) (hh:hget h id=some (.mr g ve e sz none l)) :
  AC P c o R h (.fo id g ve k):=by
 intro hc y w hok hH he
 have hHid:y.H id=some (.mr g ve e sz none l):=by rw [hH]; exact hh
 obtain ⟨h0,hv,b,es,h1,h2,h3,h4⟩:=FC hok hHid
 have hxv:=LX hHid (hx.rep he hc) h1
 have hKA:=Se h3 h4
 have hiv:=hi.rep he hc
 generalize hiw:w.eval i=iv at hiv
 cases hiv with
 | r hiv=>
  cases hiv with
  | int=>
   have hb2 : ∀ w2:World,Bo y w2→w2.heap[b]? = some (.map es.toArray es.length):=fun w2 hag=>by rw [hag b (.inr ⟨id,_,1,hHid,.inl h1⟩)]; exact h2
   cases hj:Ad l k with
   | none=>
    refine ⟨.slice none 0 0,fun w2 hag=>?_,KJ hok hHid rfl (fun _=>rfl) fun j xs b c hj2=>by rw [hj] at hj2; cases hj2⟩
    simp only [execOp,ho,hxv,hiw,Sem.run_bind,GJ hKA ht hk (hb2 w2 hag) k _ (hz w2) false,hj,Result.andThen_ok,Sem.run_pure]
    simp
   | some j=>
    obtain ⟨xs,e1,_⟩:=Bm hj
    obtain ⟨bb,cap,us,k1,k2⟩:=h4 j k xs e1
    rcases k2 with k2 | ⟨m,k2,k3,k4,k5 | k5⟩
    ·cases k2
    ·cases k5
    ·refine ⟨m.val,fun w2 hag=>?_,KJ hok hHid (by rw [k5]; rfl) (fun hn=>by rw [hj] at hn; cases hn) fun j2 xs2 b2 c2 hj2 hx2 hK2=>?_⟩
     ·simp only [execOp,ho,hxv,hiw,Sem.run_bind,GJ hKA ht hk (hb2 w2 hag) k _ (hz w2) false,hj,k2,Result.andThen_ok,Sem.run_pure]
      simp
     ·rw [hj] at hj2; cases hj2
      rw [e1] at hx2; cases hx2
      rw [k1.2.1] at hK2; cases hK2
      exact k5
theorem O0 {t:TypeId} {e e':TypeId} {sz sz':Nat} {x:Operand} {id g ve:Nat} {hole:Option (Nat × Bool)} {l:List (Int × List (List RV))} {k:Int} (ho:o.op = .call { callee:=.builtin .len,args:=#[x],argTypes:=#[t] }) (ht:CT P t e sz)
  (hx:Ev c R x (.fo id g ve k)) (hh:hget h id=some (.mr g ve e' sz' hole l)):AC P c o R h (.r (.int .i64 ((AN l k).getD []).length)):=by
 intro hc z w hok hH he
 refine ⟨.int .i64 ((AN l k).getD []).length,fun w2 hag=>?_,.r (.int _ _)⟩
 unfold execOp
 rw [ho]
 rcases HN hok (by rw [hH]; exact hh) (hx.rep he hc) with ⟨_,h2,h3⟩ | ⟨j,xs,bb,cap,us,_,h3,_,_,h2⟩
 ·rw [h3]; simp [resolve,invoke,builtin,h2,Builtin.len_,run_underlying ht.1,goInt]
 ·rw [h3]; simp [resolve,invoke,builtin,h2,Builtin.len_,run_underlying ht.1,goInt]
theorem R0 {t e e':TypeId} {sz:Nat} {x y:Operand} {id g ve:Nat} {hole:Option (Nat × Bool)} {l:List (Int × List (List RV))} {k:Int} {kd:IntKind} {z:Int} {row:List RV} (ho:o.op = .indexAddr t x y) (ht:CT P t e sz) (hx:Ev c R x (.fo id g ve k))
  (hh:hget h id=some (.mr g ve e' sz hole l)) (hy:Ev c R y (.r (.int kd z))) (hi:c=true→Ak ((AN l k).getD []) z=some row):AC P c o R h (.pk id g ve (Ac l k) (z.toNat * sz)):=by
 intro hc q w hok hH he
 obtain ⟨ht1,ii,ht2,ht3⟩:=ht
 have hHid:q.H id=some (.mr g ve e' sz hole l):=by rw [hH]; exact hh
 have hi':=Cv (hi hc)
 have hv:=hx.rep he hc
 have hvn:g<q.n∧ve<q.n:=by cases hv with | fo h1 h2 _ _=>exact ⟨h1,h2⟩
 rcases HN hok hHid hv with ⟨_,_,h3⟩ | ⟨j,xs,bb,cap,us,h1,h3,h4,h5,h2⟩
 ·rw [h3] at hi'; simp at hi'
 ·rw [h3] at hi'
  have hD:Ac l k=j:=by unfold Ac; rw [h1]; rfl
  have h0':=hi'.1
  have hlt':z<xs.length:=hi'.2.2
  refine ⟨.pointer (some ⟨bb,z.toNat * sz,none⟩),fun w2 hag=>?_,.pk hvn.1 hvn.2 rfl fun o' b c q' m ho' _ _ _ hs hK=>?_⟩
  ·unfold execOp
   rw [ho]
   simp [h2,Dq (hy.rep he hc),Instr.indexAt,asIntOf,run_underlying ht1,h0',hlt',C1 ht2,ht3,Addr.add_lit]
  ·rw [hD,h5.2.1] at hK; cases hK; rfl
theorem On {x:Cx} {w2:World} (hag:Bo x w2) {id j bb cap:Nat} {o:AY} (hH:x.H id=some o) {e:TypeId} {sz:Nat} {xs:List (List RV)} {us:List Value} (hr:Ek x id j e sz xs bb cap us) {i:Nat} (hi:i<us.length):w2.cell? ⟨bb,i,none⟩=us[i]?:=by
 have h1:x.w.cell? ⟨bb,i,none⟩=us[i]?:=by
  have:=hr.2.2.1.cells (by rfl) i us[i] (List.getElem?_eq_getElem hi)
  rw [Addr.add_lit,Nat.zero_add] at this
  rw [this,List.getElem?_eq_getElem hi]
 rw [← h1]
 exact World.cell?_of_block (hag bb (.inr ⟨id,_,cap,hH,.inr ⟨j,hr.2.1⟩⟩))
theorem OK {t:TypeId} {x:Operand} {id g ve:Nat} {e:TypeId} {sz:Nat} {hole:Option (Nat × Bool)} {l:List (Int × List (List RV))} {k z:Int} {row:List RV} (ho:o.op = .load t x) (ht:B0 P t sz) (hx:Ev c R x (.pk id g ve (Ac l k) (z.toNat * sz))) (hh:hget h id=some (.mr g ve e sz hole l))
  (hi:c=true→Ak ((AN l k).getD []) z=some row):AC P c o R h (.agg (row.map .r)):=by
 intro hc q w hok hH he
 have hHid:q.H id=some (.mr g ve e sz hole l):=by rw [hH]; exact hh
 have hi':=Cv (hi hc)
 have hv:=hx.rep he hc
 have hg : ∃ xs,AN l k=some xs:=by
  cases hg:AN l k with
  | none=>rw [hg] at hi'; simp at hi'
  | some xs=>exact ⟨xs,rfl⟩
 obtain ⟨xs,hg⟩:=hg
 rw [hg] at hi'
 obtain ⟨hj,hjx⟩:=FH hg
 obtain ⟨h0,_,b,es,h1,h2,h3,h4⟩:=FC hok hHid
 obtain ⟨bb,cap,us,k3,_⟩:=h4 _ k xs hjx
 have hrow:xs[z.toNat]? = some row:=hi'.2.1
 have hrl:row.length=sz:=k3.1 row (List.mem_of_getElem? hrow)
 have hvp:w.eval x = .pointer (some ⟨bb,z.toNat * sz,none⟩):=by
  generalize w.eval x=v at hv
  cases hv with
  | pk _ _ _ hp=>exact hp _ bb cap k xs.length hHid rfl rfl rfl (by simp [AY.kshape,hjx]) k3.2.1
 have hus:us.length=xs.length * sz:=k3.2.2.1.1
 have hzl:z.toNat<xs.length:=(List.getElem?_eq_some_iff.1 hrow).1
 have hfit:z.toNat * sz+sz≤us.length:=by
  rw [hus]
  have:=Nat.mul_le_mul_right sz (show z.toNat+1≤xs.length from hzl)
  rwa [Nat.add_mul,Nat.one_mul] at this
 refine ⟨.agg ((List.range sz).map fun j=>us.getD (z.toNat * sz+j) undef).toArray,fun w2 hag=>?_,Fb (by simpa using hrl) _ fun j a hj=>?_⟩
 ·unfold execOp
  rw [ho]
  simp [hvp,FL ht (fun j=>us.getD (z.toNat * sz+j) undef) (fun j hj=>by
   have:z.toNat * sz+j<us.length:=by omega
   rw [On hag hHid k3 this]
   simp [this])]
 ·rw [List.getElem?_map,Option.map_eq_some_iff] at hj
  obtain ⟨d,hd,rfl⟩:=hj
  obtain ⟨u,e1,e2⟩:=k3.2.2.2 _ row j d hrow hd
  simpa [e1] using (AS.r e2:AS q (.r d) u)
end
end Go.Proofs.Ytelkfhdgmbahgaa.Al

namespace Go.Proofs.Ytelkfhdgmbahgaa.Al
open Go.ChangeMaps (setBlock)
open Go.MapKept Go.RowKit
section
variable {P:Program} {c:Bool} {o:Oper} {R:Aj} {h:AZ} {n:Nat}
theorem Qr {x:Cx} {t e:TypeId} {sz by_:Nat} (ht:Bk P t e sz by_) {xs ys:List (List RV)} {us:List Value} {v u:Value} (hown:x.w.ownsRow 0 e sz v xs.length us)
  (hsrc:Gu x u sz ys) (hm:xs.length+ys.length≤maxLen) (hb:(xs.length+ys.length) * by_≤140737488355328) (ty:TypeId) :
  ∃ (v':Value) (w':World) (news:List Value),(Builtin.append_ #[t,t] ty #[v,u]).run P x.w = .ok v' w'∧w'.ownsRow 0 e sz v' (xs.length+ys.length) (us++news)∧x.w.grownBy w' v.ownBlock ∧
   (v'.ownBlock=v.ownBlock∨v'.ownBlock=some x.w.heap.size)∧news.length=ys.length * sz ∧ ∀ i row k d,ys[i]? = some row→row[k]? = some d → ∃ u,news[i * sz+k]? = some u∧Av x.w x.S d u:=by
 obtain ⟨ht1,ii,z,hi,hisz,hiby,hz,hzs,_,h0⟩:=ht
 rcases hsrc with ⟨hy,cc,rfl⟩ | ⟨a,cap,news,rfl,hl,hcells,hone,hrep⟩
 ·subst hy
  refine ⟨v,x.w,[],?_,by simpa using hown,⟨rfl,rfl,rfl,Nat.le_refl _,fun _ _ _=>rfl⟩,.inl rfl,by simp,by simp⟩
  rcases hown.2 with ⟨rfl,h1⟩ | ⟨g,cap,cur,rfl,_,_,hnc,_⟩
  ·simp [Builtin.append_,run_underlying ht1,sizeOf,typeInfo,hi,Builtin.lenOf,Builtin.firstCells]
  ·simp [Builtin.append_,run_underlying ht1,sizeOf,typeInfo,hi,Builtin.lenOf,Builtin.firstCells,hnc,storeCells]
 ·obtain ⟨v',w',hrun,k1,k2,_,k4⟩:=run_append_own_at (P:=P) x.w 0 t ty e ii z sz by_ ht1 hi hz hisz hiby hzs h0 v xs.length us hown a ys.length cap news hl hcells hone hm hb (Nat.zero_le _)
  exact ⟨v',w',news,hrun,k1,k2,k4,hl,hrep⟩
theorem QV {w w':World} {e:TypeId} {sz bb len cap m:Nat} {us:List Value} (h:w.ownsRow 0 e sz (.slice (some ⟨bb,0,none⟩) len cap) m us) (hb:w'.heap[bb]? = w.heap[bb]?):w'.ownsRow 0 e sz (.slice (some ⟨bb,0,none⟩) len cap) m us:=by
 obtain ⟨hl,hr⟩:=h
 refine ⟨hl,?_⟩
 rcases hr with hr | ⟨gg,cap',cur,hv',f1,f2,f3,f4,f5,f6⟩
 ·exact .inl hr
 ·refine .inr ⟨gg,cap',cur,hv',f1,?_,f3,f4,f5,f6⟩
  rw [← f2]
  simp only [Value.slice.injEq,Option.some.injEq,Addr.mk.injEq] at hv'
  rw [← hv'.1.1]
  exact hb
theorem Ek.keep {x y:Cx} (hle:x.le y) {id j:Nat} {e:TypeId} {sz:Nat} {xs:List (List RV)} {bb cap:Nat} {us:List Value} (h:Ek x id j e sz xs bb cap us) (hK:y.K id j=x.K id j) (hb:y.w.heap[bb]? = x.w.heap[bb]?):Ek y id j e sz xs bb cap us:=
 ⟨h.1,hK.trans h.2.1,QV h.2.2.1 hb,fun i row c d h1 h2=>by
  obtain ⟨u,e1,e2⟩:=h.2.2.2 i row c d h1 h2
  exact ⟨u,e1,e2.mono (fun b hb=>hle.blk b (.inl hb)) hle.S⟩⟩
theorem Bl.mr {y:Cx} {id g ve:Nat} {κ:Nat→Option (Nat × Nat)} (hκ : ∀ j,y.K id j=κ j) {e:TypeId} {sz:Nat} {hole:Option (Nat × Bool)} {l:List (Int × List (List RV))} {b:Nat} {es:List MapEntry} (h0:0<sz) (hv:ve<y.n) (h2:y.w.heap[b]? = some (.map es.toArray es.length)) (h3:MP hole l.length es.length)
  (h4 : ∀ (j:Nat) (k:Int) (xs:List (List RV)),l[j]? = some (k,xs) → ∃ bb cap us,Ek y id j e sz xs bb cap us∧(hole=some (j,true) ∨ ∃ m,es[j]? = some m∧m.key = .int .i64 k∧m.born=j∧(hole=some (j,false)∨m.val = .slice (some ⟨bb,0,none⟩) xs.length cap))) :
  Bl y (some (b,1)) κ (.mr g ve e sz hole l):=
 ⟨h0,hv,b,es,rfl,h2,h3,fun j k xs hj=>by
  obtain ⟨bb,cap,us,⟨e1,e2,e3,e4⟩,e5⟩:=h4 j k xs hj
  exact ⟨e1,bb,cap,us,(hκ j).symm.trans e2,e3,e4,e5⟩⟩
theorem Pu {t e:TypeId} {sz by_:Nat} {s x:Operand} {id g ve:Nat} {l:List (Int × List (List RV))} {k:Int} {ys:List (List RV)} (ho:o.op = .call { callee:=.builtin .append,args:=#[s,x],argTypes:=#[t,t] }) (ht:Bk P t e sz by_)
  (hs:Ev c R s (.fo id g ve k)) (hh:hget h id=some (.mr g ve e sz none l)) (hx:FP c R h x sz ys) (hy0:ys.isEmpty=false) (hm:(((AN l k).getD []).length+ys.length) * by_≤140737488355328) (hm2:((AN l k).getD []).length+ys.length≤9223372036854775807) :
  A2 P c o R h n (.fo id g n k) ((id,some (.mr g n e sz (some (Ac l k,(AN l k).isNone)) (Ai l k ((AN l k).getD []++ys)))) :: h) (n+1):=by
 intro hc z w hok hH hn he K Q hK
 have hHid:z.H id=some (.mr g ve e sz none l):=by rw [hH]; exact hh
 have hsv:=hs.rep he hc
 obtain ⟨h0,hv,b,es,h1,h2,h3,h4⟩:=FC hok hHid
 obtain ⟨hsrc,hrow'⟩:=hx.src h0 hc hok hH he
 have hgn:=(hok.obj _ _ hHid).1
 obtain ⟨xs,us,hxs,hrowx,hcx,hown,hblk⟩ : ∃ (xs:List (List RV)) (us:List Value),(AN l k).getD []=xs∧(∀ row∈xs,row.length=sz)∧(∀ i row c d,xs[i]? = some row→row[c]? = some d → ∃ u,us[i * sz+c]? = some u∧Av z.w z.S d u) ∧
   z.w.ownsRow 0 e sz (w.eval s) xs.length us ∧ ∀ bb,(w.eval s).ownBlock=some bb → ∃ cap,z.K id (Ac l k)=some (bb,cap):=by
  rcases HN hok hHid hsv with ⟨k1,k2,k3⟩ | ⟨j,xs,bb,cap,us,k1,k2,k3,k4,k5⟩
  ·refine ⟨[],[],by rw [k3]; rfl,by simp,by simp,by rw [k2]; exact World.ownsRow_nil _ _ _ _,fun bb hb=>by rw [k2] at hb; cases hb⟩
  ·refine ⟨xs,us,by rw [k2]; rfl,k4.1,k4.2.2.2,by rw [k5]; exact k4.2.2.1,fun b2 hb=>?_⟩
   rw [k5] at hb
   simp only [Value.ownBlock,Option.some.injEq] at hb
   subst hb
   exact ⟨cap,by unfold Ac; rw [k1]; exact k4.2.1⟩
 rw [hxs] at hm hm2 hK
 obtain ⟨v',w',news,hrun,hown',hgr,hblk',hnl,hnews⟩:=Qr (P:=P) ht hown hsrc (by unfold maxLen; omega) hm o.type
 have hyl:0<ys.length:=by cases ys with | nil=>cases hy0 | cons _ _=>simp
 obtain ⟨bb',cap',hv'⟩ : ∃ bb' cap',v' = .slice (some ⟨bb',0,none⟩) (xs.length+ys.length) cap':=by
  rcases hown'.2 with ⟨_,hr⟩ | ⟨gg,cap,cur,hv',_⟩
  ·omega
  ·exact ⟨gg,cap,hv'⟩
 subst hv'
 have hbb':bb'<w'.heap.size:=(hown'.lt bb' rfl).2
 have hnewb:z.w.heap.size≤bb' ∨ ∃ cap,z.K id (Ac l k)=some (bb',cap):=by
  rcases hblk' with e1 | e1
  ·have e1':(w.eval s).ownBlock=some bb':=e1.symm
   exact .inr (hblk bb' e1')
  ·simp only [Value.ownBlock,Option.some.injEq] at e1
   exact .inl (by omega)
 have hkeep : ∀ b2,b2<z.w.heap.size→(∀ cap,z.K id (Ac l k)≠some (b2,cap))→w'.heap[b2]? = z.w.heap[b2]?:=fun b2 hb2 hne=>hgr.block b2 hb2 fun e1=>by
  obtain ⟨cap,e2⟩:=hblk b2 e1.symm
  exact hne cap e2
 have hbne : ∀ cap,z.K id (Ac l k)≠some (b,cap):=fun cap e1=>(hok.ext id _ _ b cap hHid e1).2.2.2.1 id _ 1 hHid h1
 have hblt:=(hok.own id _ b 1 hHid h1).1
 have hup:=F2 hok id (.mr g z.n e sz (some (Ac l k,(AN l k).isNone)) (Ai l k (xs++ys))) w' (some (b,1)) (fun j=>if j=Ac l k then some (bb',cap') else z.K id j) (z.n+1) hgr.size hgr.os hgr.tape hgr.output
  (fun b2 hb2 hno=>hkeep b2 hb2 fun cap e1=>hno _ hHid (.inr ⟨_,cap,e1⟩))
  (fun b2 k2 hb2=>by cases hb2; exact ⟨Nat.lt_of_lt_of_le hblt hgr.size,.inr ⟨_,hHid,.inl ⟨1,h1⟩⟩⟩)
  (fun j b2 k2 hb2=>by
   split at hb2
   ·rename_i hj
    cases hb2
    refine ⟨⟨hbb',hnewb.imp _root_.id fun ⟨cap,e1⟩=>⟨_,hHid,.inr ⟨_,cap,e1⟩⟩⟩,fun k3 hk3=>?_,fun j3 k3 hk3=>?_⟩
    ·cases hk3
     rcases hnewb with e1 | ⟨cap,e1⟩
     ·omega
     ·exact hbne cap e1
    ·split at hk3
     ·rename_i hj3; rw [hj3,hj]
     ·rename_i hj3
      have hx3:=hok.ext id _ j3 _ k3 hHid hk3
      rcases hnewb with e1 | ⟨cap,e1⟩
      ·omega
      ·exact absurd (hx3.2.2.2.2 id _ _ cap hHid e1).2.symm hj3
   ·rename_i hj
    have hx2:=hok.ext id _ j b2 k2 hHid hb2
    refine ⟨⟨Nat.lt_of_lt_of_le hx2.1 hgr.size,.inr ⟨_,hHid,.inr ⟨j,k2,hb2⟩⟩⟩,fun k3 hk3=>by cases hk3; exact hx2.2.2.2.1 id _ 1 hHid h1,fun j3 k3 hk3=>?_⟩
    split at hk3
    ·rename_i hj3
     cases hk3
     rcases hnewb with e1 | ⟨cap,e1⟩
     ·have:=hx2.1; omega
     ·exact absurd (hx2.2.2.2.2 id _ _ cap hHid e1).2.symm hj
    ·exact (hx2.2.2.2.2 id _ j3 k3 hHid hk3).2)
  (Nat.le_succ _) (Nat.lt_succ_of_lt hgn) (fun _=>⟨_,hHid,rfl,rfl,h1.symm⟩) (fun _ _ hv=>absurd hv (by simp [AY.ver]))
  (fun hle=>by
   refine Bl.mr (id:=id) (fun j=>by simp) h0 (Nat.lt_succ_self _) ((hkeep b hblt hbne).trans h2) ?_ fun j q rs hj=>?_
   ·cases hg:AN l k with
    | none=>
     have hkn:Ad l k=none:=by cases hq:Ad l k with | none=>rfl | some j=>obtain ⟨_,_,e2,_⟩:=Bm hq; rw [hg] at e2; cases e2
     rw [(CY hkn).2]
     refine ⟨by rw [List.length_append,List.length_singleton,show l.length=es.length from h3],?_⟩
     unfold Ac; rw [hkn]; exact h3
    | some r=>
     rw [NX hg]; exact h3
   ·
    have hcase:(j=Ac l k∧q=k∧rs=xs++ys)∨(j≠Ac l k∧l[j]? = some (q,rs)):=by
     cases hq:Ad l k with
     | none=>
      rw [(CY hq).2] at hj
      have hD:Ac l k=l.length:=by unfold Ac; rw [hq]; rfl
      by_cases hlt:j<l.length
      ·rw [List.getElem?_append_left hlt] at hj
       exact .inr ⟨by omega,hj⟩
      ·have hj':j=l.length:=by have:=(List.getElem?_eq_some_iff.1 hj).1; simp at this; omega
       rw [hj',List.getElem?_append_right (Nat.le_refl _)] at hj
       simp at hj
       exact .inl ⟨by omega,hj.1.symm,hj.2.symm⟩
     | some j0=>
      obtain ⟨v0,f1,f2,f3⟩:=Bm hq
      have hD:Ac l k=j0:=by unfold Ac; rw [hq]; rfl
      rw [f3] at hj
      by_cases hjj:j0=j
      ·rw [← hjj,List.getElem?_set_self (NS hq)] at hj
       cases hj
       exact .inl ⟨by omega,rfl,rfl⟩
      ·rw [List.getElem?_set_ne hjj] at hj
       exact .inr ⟨by omega,hj⟩
    rcases hcase with ⟨rfl,rfl,rfl⟩ | ⟨hjD,hjl⟩
    ·refine ⟨bb',cap',us++news,⟨fun row hr=>(List.mem_append.1 hr).elim (hrowx row) (hrow' row),by simp,by rw [List.length_append]; exact hown',fun i row c d q1 q2=>?_⟩,?_⟩
     ·have hul:us.length=xs.length * sz:=hown.1
      by_cases hi':i<xs.length
      ·rw [List.getElem?_append_left hi'] at q1
       obtain ⟨u,q3,q4⟩:=hcx i row c d q1 q2
       exact ⟨u,by rw [List.getElem?_append_left ((List.getElem?_eq_some_iff.1 q3).1)]; exact q3,q4.mono (fun b hb=>hle.blk b (.inl hb)) hle.S⟩
      ·rw [List.getElem?_append_right (by omega)] at q1
       obtain ⟨u,q3,q4⟩:=hnews _ row c d q1 q2
       refine ⟨u,?_,q4.mono (fun b hb=>hle.blk b (.inl hb)) hle.S⟩
       have e1:i * sz+c=us.length+((i-xs.length) * sz+c):=by
        rw [hul,Nat.sub_mul]
        have:xs.length * sz≤i * sz:=Nat.mul_le_mul_right _ (by omega)
        omega
       rw [e1,List.getElem?_append_right (by omega),Nat.add_sub_cancel_left]
       exact q3
     ·cases hg:AN l q with
      | none=>exact .inl rfl
      | some r=>
       right
       obtain ⟨g1,g2⟩:=FH hg
       obtain ⟨_,_,_,_,k5⟩:=h4 _ q r g2
       rcases k5 with k5 | ⟨m,k6,k7,k8,_⟩
       ·cases k5
       ·exact ⟨m,k6,k7,k8,.inl rfl⟩
    ·obtain ⟨b2,cap2,us2,k3,k5⟩:=h4 j q rs hjl
     refine ⟨b2,cap2,us2,k3.keep hle (by simp [hjD]) (hkeep b2 (hok.ext id _ j b2 cap2 hHid k3.2.1).1 fun cap e1=>hjD ((hok.ext id _ _ b2 cap hHid e1).2.2.2.2 id _ j cap2 hHid k3.2.1).2),?_⟩
     rcases k5 with k5 | ⟨m,k6,k7,k8,k9 | k9⟩
     ·cases k5
     ·cases k9
     ·exact .inr ⟨m,k6,k7,k8,.inr k9⟩)
 unfold Oper.wp execOp
 simp only [ho,resolve,invoke,builtin,Sem.run_bind,Sem.run_pure,Result.andThen_ok,List.map_toArray,List.map_cons,List.map_nil,hrun]
 refine hK _ _ hup.1 hup.2 (by simp only [hH,hn]; exact BV _ _ _) (by simp [hn]) ?_
 rw [← hn]
 refine KJ hup.2 (if_pos rfl) rfl (fun hq=>by rw [It] at hq; cases hq) fun j rs b2 c2 hj hl hK2=>?_
 rw [It] at hj
 cases hj
 have:=(FH (DV l k (xs++ys)))
 rw [It] at this
 rw [← (Option.some.inj this.1)] at this
 rw [this.2] at hl
 cases hl
 simp at hK2
 rw [← hK2.1,← hK2.2,List.length_append]
theorem SB {t kt et:TypeId} {x i y:Operand} {id g ve:Nat} {e:TypeId} {sz:Nat} {l:List (Int × List (List RV))} {k:Int} {j:Nat} {nw:Bool} (ho:o.op = .mapUpdate t x i y∨o.op = .insert t x i y) (ht:P.underlying t=some (.map kt et)) (hk:P.underlying kt=some (.int .i64))
  (hx:Ev c R x (.mref id g)) (hi:Ev c R i (.r (.int .i64 k))) (hy:Ev c R y (.fo id g ve k)) (hh:hget h id=some (.mr g ve e sz (some (j,nw)) l)) (hj:Ad l k=some j) :
  A2 P c o R h n .any ((id,some (.mr g ve e sz none l)) :: h) n:=by
 intro hc z w hok hH hn he K Q hK
 have hHid:z.H id=some (.mr g ve e sz (some (j,nw)) l):=by rw [hH]; exact hh
 obtain ⟨h0,hv,b,es,h1,h2,h3,h4⟩:=FC hok hHid
 have hxv:=LX hHid (hx.rep he hc) h1
 have hblt:=(hok.own id _ b 1 hHid h1).1
 rcases HN hok hHid (hy.rep he hc) with ⟨k1,_⟩ | ⟨j',xs,bb,cap,us,k1,k2,k3,k4,k5⟩
 ·rw [hj] at k1; cases k1
 rw [hj] at k1; cases k1
 have hiv:=hi.rep he hc
 generalize hiw:w.eval i=iv at hiv
 cases hiv with
 | r hiv=>
  cases hiv with
  | int=>
   obtain ⟨es',hrun,hlen,hent⟩ : ∃ es':List MapEntry,(Instr.mapUpdate t (.map (some b)) (.int .i64 k) (w.eval y)).run P z.w = .ok () { z.w with heap:=z.w.heap.setIfInBounds b (.map es'.toArray es'.length) } ∧ l.length=es'.length ∧
     ∀ (q:Nat) (k':Int) (rs:List (List RV)),l[q]? = some (k',rs) → ∃ m,es'[q]? = some m∧m.key = .int .i64 k'∧m.born=q∧(q=j∧m.val=w.eval y∨q≠j∧es[q]? = some m):=by
    cases nw with
    | true=>
     have h3':l.length=es.length+1∧j=es.length:=h3
     have hKA:DC (l.take j) es:=⟨by rw [List.length_take]; omega,fun q k' d hq=>by
      have hq':q<j:=by have:=(List.getElem?_eq_some_iff.1 hq).1; rw [List.length_take] at this; omega
      rw [List.getElem?_take,if_pos hq'] at hq
      obtain ⟨_,_,_,_,e | ⟨m,e1,e2,e3,_⟩⟩:=h4 q k' d hq
      ·simp only [Option.some.injEq,Prod.mk.injEq] at e; omega
      ·exact ⟨m,e1,e2,e3⟩⟩
     have hrun:=Id hKA ht hk (b:=b) (w:=z.w) (by rw [h2,List.length_take,show min j l.length=es.length by omega]) k (w.eval y)
     rw [RT hj] at hrun
     refine ⟨_,hrun,by simp [CW]; omega,fun q k' rs hq=>?_⟩
     by_cases hqj:q=j
     ·subst hqj
      rw [k3] at hq; cases hq
      exact ⟨{ key:=.int .i64 k,val:=w.eval y,born:=es.length },by show (es++_)[q]? = _; rw [h3'.2,List.getElem?_append_right (Nat.le_refl _)]; simp,rfl,h3'.2.symm,.inl ⟨rfl,rfl⟩⟩
     ·have hql:=(List.getElem?_eq_some_iff.1 hq).1
      obtain ⟨_,_,_,_,e | ⟨m,e1,e2,e3,_⟩⟩:=h4 q k' rs hq
      ·simp only [Option.some.injEq,Prod.mk.injEq] at e; omega
      ·exact ⟨m,by show (es++_)[q]? = _; rw [List.getElem?_append_left (by omega)]; exact e1,e2,e3,.inr ⟨hqj,e1⟩⟩
    | false=>
     have h3':l.length=es.length:=h3
     have hKA:DC l es:=⟨h3'.symm,fun q k' d hq=>by
      obtain ⟨_,_,_,_,e | ⟨m,e1,e2,e3,_⟩⟩:=h4 q k' d hq
      ·simp at e
      ·exact ⟨m,e1,e2,e3⟩⟩
     have hrun:=Id hKA ht hk (b:=b) (w:=z.w) (by rw [h2,h3']) k (w.eval y)
     rw [hj] at hrun
     refine ⟨_,hrun,by simp [CW]; omega,fun q k' rs hq=>?_⟩
     obtain ⟨m,e1,e2,e3⟩:=hKA.2 q k' rs hq
     by_cases hqj:q=j
     ·subst hqj
      rw [k3] at hq; cases hq
      exact ⟨{ m with key:=.int .i64 k,val:=w.eval y },by show (es.modify q _)[q]? = _; rw [List.getElem?_modify_eq,e1]; rfl,rfl,e3,.inl ⟨rfl,rfl⟩⟩
     ·exact ⟨m,by show (es.modify j _)[q]? = _; rw [List.getElem?_modify_ne (h:=fun e=>hqj e.symm)]; exact e1,e2,e3,.inr ⟨hqj,e1⟩⟩
   have hup:=F2 hok id (.mr g ve e sz none l) { z.w with heap:=z.w.heap.setIfInBounds b (.map es'.toArray es'.length) } (some (b,1)) (z.K id) z.n (by simp) rfl rfl rfl
    (fun b' _ hne=>by
     have:b≠b':=fun e=>hne _ hHid (.inl ⟨1,by rw [← e]; exact h1⟩)
     simp [this])
    (fun b' k' hb'=>by cases hb'; exact ⟨by simpa using hblt,.inr ⟨_,hHid,.inl ⟨1,h1⟩⟩⟩)
    (fun j' b' k' hb=>⟨⟨by simpa using (hok.ext id _ j' b' k' hHid hb).1,.inr ⟨_,hHid,.inr ⟨j',k',hb⟩⟩⟩,fun k2 hb2=>by cases hb2; exact (hok.ext id _ j' b k' hHid hb).2.2.2.1 id _ 1 hHid h1,fun j2 k2 hb2=>((hok.ext id _ j' b' k' hHid hb).2.2.2.2 id _ j2 k2 hHid hb2).2⟩)
    (Nat.le_refl _) (hok.obj _ _ hHid).1 (fun _=>⟨_,hHid,rfl,rfl,h1.symm⟩)
    (fun _ _ _=>⟨_,hHid,rfl,rfl,rfl,rfl,rfl⟩)
    (fun hle=>Bl.mr (id:=id) (fun j=>by simp) h0 hv (by simp [hblt]) (show l.length=es'.length from hlen) fun q k' rs hq=>by
     obtain ⟨b2,cap2,us2,q3,q5⟩:=h4 q k' rs hq
     obtain ⟨m,e1,e2,e3,e4⟩:=hent q k' rs hq
     have hb2:b2≠b:=fun e=>(hok.ext id _ q b2 cap2 hHid q3.2.1).2.2.2.1 id _ 1 hHid (by rw [e]; exact h1)
     refine ⟨b2,cap2,us2,q3.keep hle (by simp) (by simp [Ne.symm hb2]),.inr ⟨m,e1,e2,e3,.inr ?_⟩⟩
     rcases e4 with ⟨rfl,e4⟩ | ⟨hqj,e4⟩
     ·rw [e4,k5]
      rw [k3] at hq; cases hq
      have e5:=q3.2.1
      rw [k4.2.1] at e5
      cases e5; rfl
     ·rcases q5 with q5 | ⟨m',e5,_,_,q6 | q6⟩
      ·simp only [Option.some.injEq,Prod.mk.injEq] at q5; omega
      ·simp only [Option.some.injEq,Prod.mk.injEq] at q6; omega
      ·rw [e4] at e5; cases e5; exact q6)
   unfold Oper.wp execOp
   rcases ho with ho | ho <;>
   ·rw [ho]
    simp only [hxv,hiw,Sem.run_bind,hrun,Result.andThen_ok,Sem.run_pure]
    exact hK undef _ hup.1 hup.2 (by simp only [hH]; exact BV _ _ _) hn (.any _)
end
end Go.Proofs.Ytelkfhdgmbahgaa.Al

namespace Go.Proofs.Ytelkfhdgmbahgaa.Al
section
variable {P:Program} {ops:Array Oper} {rest:List Oper} {s:St} {K:St→Prop} {o:Oper}
theorem AC.no {c:Bool} {R:Aj} {h:AZ} {v:AV} (hc:c=false):AC P c o R h v:=fun h=>by rw [hc] at h; cases h
theorem FD {rs:List ResultVar} {K:AV→AZ→Nat→Prop} {s:St} (r:AV) (h1:Ff P rs s r) (h2:K r s.h s.n):Bw P rs K .normal s:=⟨r,h1,h2⟩
theorem DF {d:Nat} {f:FuncId} {fn:Func} {code:Code} {fo:Operand} {xs:Array Operand} {ats:Array TypeId} {N:Nat} (caps bs:List AV) (hg:o.guard=none) (hd:o.dst=some d) (hdN:Nat.blt d s.N=true)
  (ho : o.op = .call { callee := .value fo, args := xs, argTypes := ats }) (hfo : Ev true s.e fo (.fn f caps)) (hx : FW true s.e xs.toList bs) (hf : P.funcs[f]? = some fn) (hb : fn.body = some code) (hname : (fn.name == "runtime.NumGoroutine") = false)
  (hN:fn.ntmps=N) (hlen:Nat.ble (bs++caps).length N=true)
  (hw : ∀ K':AV→AZ→Nat→Prop,(∀ r h' n',AB P ops rest { e:=(d,r) :: s.e,h:=h',n:=n',N:=s.N } K→K' r h' n')→AW P code (Bw P fn.results.toList K') ⟨Cz 0 (bs++caps),s.h,s.n,N⟩):AB P ops (o :: rest) s K:=
 Ss caps bs hg hd hdN ho hfo hx hf hb hname hN hlen (hw _ fun _ _ _ h=>h)
end
section
variable {P:Program} {ops:Array Oper} {rest:List Oper} {s:St} {K:St→Prop} {o:Oper}
end
section
variable {P:Program} {ops:Array Oper} {rest:List Oper} {s:St} {K:St→Prop} {o:Oper}
end
open Go.RowKit
section
variable {P:Program} {ops:Array Oper} {rest:List Oper} {s:St} {K:St→Prop} {o:Oper}
end
section
variable {P:Program} {s:St}
end
section
variable {P:Program} {ops:Array Oper} {Q:Exit→Act→World→Prop} {md:Region.Mode}
end
end Go.Proofs.Ytelkfhdgmbahgaa.Al

namespace Go.Proofs.Ytelkfhdgmbahgaa.Al
open Go.RowKit
section
variable {P:Program} {ops:Array Oper} {rest:List Oper} {s:St} {K:St→Prop} {o:Oper}
end
end Go.Proofs.Ytelkfhdgmbahgaa.Al

namespace Go.Proofs.Ytelkfhdgmbahgaa.Al
open Go.RowKit
end Go.Proofs.Ytelkfhdgmbahgaa.Al

namespace Go.Proofs.Ytelkfhdgmbahgaa.Al
open Go.RowKit
section
variable {x:Cx} (id0:Nat) (o0:AY) (β0:Option (Nat × Nat)) (κ0:Nat→Option (Nat × Nat)) (n':Nat)
end
end Go.Proofs.Ytelkfhdgmbahgaa.Al

namespace Go.Proofs.Ytelkfhdgmbahgaa.Al
open Go.RowKit
section
variable {P:Program} {s:St}
end
end Go.Proofs.Ytelkfhdgmbahgaa.Al

namespace Go.Proofs.Ytelkfhdgmbahgaa.Al
def m2 {σ:Type} (f:Int→Int→Option σ):List RV→Option σ
 | [.int .i64 a,.int .i64 b]=>f a b
 | _=>none
section
variable {P:Program} {s:St}
theorem Sk {c:Code} {Q:Exit→St→Prop} (h:AW P c (fun e s=>∃ s',AJ s s'∧Q e s') s):AW P c Q s:=
 fun z hz c0 a w hs=>wpIn_mono (h z hz c0 a w hs) fun _ _ _ ⟨ho,s1,⟨s2,h1,h2⟩,h3⟩=>⟨ho,s2,h2,h1 _ _ _ h3⟩
end
section
variable {P:Program} {ops:Array Oper} {rest:List Oper} {s:St} {K:St→Prop} {o:Oper}
end
open Go.ChangeMaps (setBlock)
open Go.MapKept Go.RowKit
def Fj {σ:Type} (key:σ→List Int) (ks:List Int) (F:σ→Int→Option σ) (st:σ) (k:Int):Option σ:=(F st k).bind fun st'=>if key st'=ks then some st' else none
def Ce {σ:Type} (G:σ→Int→Option σ):List Int→σ→Option σ
 | [],st=>some st
 | k :: ks,st=>(G st k).bind (Ce G ks)
theorem Lw {σ:Type} (G:σ→Int→Option σ) (l m:List Int) (st:σ):Ce G (l++m) st=(Ce G l st).bind (Ce G m):=by
 induction l generalizing st with
 | nil=>simp [Ce]
 | cons a l ih=>
  simp only [List.cons_append,Ce]
  cases G st a with
  | none=>rfl
  | some s=>simpa using ih s
def In {σ ρ:Type} (key:σ→List Int) (F:σ→Int→Option σ) (st0:σ) (rest:σ→Option ρ) (r:ρ):Prop:=
 (key st0).Nodup ∧ ∀ l:List Int,l.Perm (key st0)→(Ce (Fj key (key st0) F) l st0).bind rest=some r
open Classical in
noncomputable def Gj {σ ρ:Type} (key:σ→List Int) (F:σ→Int→Option σ) (st0:σ) (rest:σ→Option ρ):Option ρ:=if h : ∃ r,In key F st0 rest r then some h.choose else none
theorem OL {σ ρ:Type} {key:σ→List Int} {F:σ→Int→Option σ} {st0:σ} {rest:σ→Option ρ} {r:ρ} (h:Gj key F st0 rest=some r):In key F st0 rest r:=by
 unfold Gj at h
 split at h
 ·rename_i hx
  cases h
  exact hx.choose_spec
 ·cases h
theorem RN {σ ρ:Type} {key:σ→List Int} {F:σ→Int→Option σ} {st0:σ} {rest:σ→Option ρ} {r:ρ} (h:In key F st0 rest r):Gj key F st0 rest=some r:=by
 have hx : ∃ r,In key F st0 rest r:=⟨r,h⟩
 unfold Gj
 rw [dif_pos hx]
 have h1:=hx.choose_spec.2 (key st0) (List.Perm.refl _)
 have h2:=h.2 (key st0) (List.Perm.refl _)
 rw [h1] at h2
 exact h2
def AY.mkeys:AY→Option (List Int)
 | .md _ l=>some (l.map (·.1))
 | .mb _ _ _ l=>some (l.map (·.1))
 | .mr _ _ _ _ none l=>some (l.map (·.1))
 | _=>none
theorem Qz {α β:Type} (rd:α→β) (m:List (Int × α)):(AM rd m).map (·.1)=m.map (·.1):=by simp [AM]
theorem KT {α:Type} (g v:Nat) (e:TypeId) (row:α→List RV) (m:List (Int × α)):(AY.mb g v e (AM row m)).mkeys=some (m.map (·.1)):=by simp [AY.mkeys,Qz]
theorem Ki {x:Cx} (hok:x.ok) {id:Nat} {ob:AY} {ks:List Int} {v:Value} (hH:x.H id=some ob) (hk:ob.mkeys=some ks) (hv:AS x (.mref id ob.gen) v) :
  ∃ (b:Nat) (es:List MapEntry),x.β id=some (b,1)∧v = .map (some b)∧x.w.heap[b]? = some (.map es.toArray ks.length)∧es.length=ks.length ∧ ∀ (j:Nat) (k:Int),ks[j]? = some k → ∃ m,es[j]? = some m∧m.key = .int .i64 k∧m.born=j:=by
 have hvb : ∀ b,x.β id=some (b,1)→v = .map (some b):=by
  intro b h1
  cases hv with
  | mref _ _ hv=>
   obtain ⟨b',cap,k1,k2⟩:=hv _ hH rfl
   rw [h1] at k1
   simp only [Option.some.injEq,Prod.mk.injEq] at k1
   obtain ⟨rfl,rfl⟩:=k1
   exact k2
 cases ob with
 | md g l=>
  cases hk
  obtain ⟨_,b,es,h1,h2,h3,h4⟩:=hok.obj _ _ hH
  refine ⟨b,es,h1,hvb b h1,by simpa using h2,by simpa using h3,fun j k hj=>?_⟩
  rw [List.getElem?_map,Option.map_eq_some_iff] at hj
  obtain ⟨p,hp,rfl⟩:=hj
  obtain ⟨m,e1,e2,e3,_⟩:=h4 j p.1 p.2 hp
  exact ⟨m,e1,e2,e3⟩
 | mb g ve e l=>
  cases hk
  obtain ⟨_,_,b,es,h1,h2,h3,h4⟩:=hok.obj _ _ hH
  refine ⟨b,es,h1,hvb b h1,by simpa using h2,by simpa using h3,fun j k hj=>?_⟩
  rw [List.getElem?_map,Option.map_eq_some_iff] at hj
  obtain ⟨p,hp,rfl⟩:=hj
  obtain ⟨m,_,_,e1,e2,e3,_⟩:=h4 j p.1 p.2 hp
  exact ⟨m,e1,e2,e3⟩
 | mr g ve e sz hole l=>
  cases hole with
  | some _=>cases hk
  | none=>
   cases hk
   obtain ⟨h0,hv0,b,es,h1,h2,h3,h4⟩:=FC hok hH
   have h3':l.length=es.length:=h3
   refine ⟨b,es,h1,hvb b h1,by rw [h2,List.length_map,h3'],by simp [h3'],fun j k hj=>?_⟩
   rw [List.getElem?_map,Option.map_eq_some_iff] at hj
   obtain ⟨p,hp,rfl⟩:=hj
   obtain ⟨_,_,_,_,e | ⟨m,e1,e2,e3,_⟩⟩:=h4 j p.1 p.2 hp
   ·cases e
   ·exact ⟨m,e1,e2,e3⟩
 | _=>cases hk
theorem MK {x:Cx} (hok:x.ok) {id g mid mg len:Nat} {seen:List Nat} {v:Value} (hH:x.H id=some (.mj g mid mg len seen)) (hv:AS x (.ptr id g 0 0) v) :
  ∃ b m:Nat,x.β id=some (b,1)∧v = .pointer (some ⟨b,0,none⟩)∧x.w.heap[b]? = some (.mapIter (some m) len seen.toArray len)∧AS x (.mref mid mg) (.map (some m)):=by
 obtain ⟨_,b,m,h1,h2,h3⟩:=hok.obj _ _ hH
 cases hv with
 | ptr _ _ hv=>
  obtain ⟨b',cap,h5,h6⟩:=hv _ hH rfl
  rw [h1] at h5
  simp only [Option.some.injEq,Prod.mk.injEq] at h5
  obtain ⟨rfl,rfl⟩:=h5
  exact ⟨b,m,h1,by rw [h6,Nat.zero_mul],h2,h3⟩
section
variable {P:Program} {c:Bool} {o:Oper} {R:Aj} {h:AZ} {n:Nat}
theorem Pr {t kt et:TypeId} {x:Operand} {id:Nat} {ob:AY} {ks:List Int} (id':Nat) (ho:o.op = .range t x) (ht:P.underlying t=some (.map kt et)) (hx:Ev c R x (.mref id ob.gen)) (hh:hget h id=some ob) (hk:ob.mkeys=some ks) (hid:(id' == id)=false) :
  A2 P c o R h n (.ptr id' n 0 0) ((id',some (.mj n id ob.gen ks.length [])) :: h) (n+1):=by
 intro hc z w hok hH hn he K Q hK
 have hxv:=hx.rep he hc
 obtain ⟨b,es,h1,h2,h3,h4,h5⟩:=Ki hok (by rw [hH]; exact hh) hk hxv
 have hup:=CB hok id' (.mj z.n id ob.gen ks.length []) (z.w.alloc (.mapIter (some b) ks.length #[] ks.length)) (some (z.w.heap.size,1)) (z.n+1) (by simp) rfl rfl rfl
  (fun b hb _=>heap_alloc_old _ _ hb) (fun b k hb=>by cases hb; simp) (by omega) (by simp [AY.gen]) (fun hg=>absurd hg (by simp [AY.gen]))
  (fun hle=>⟨z.w.heap.size,b,rfl,heap_alloc_new _ _,by rw [h2] at hxv; exact hxv.mono hle⟩)
 unfold Oper.wp execOp
 rw [ho]
 simp only [h2,Sem.run_bind,run_range_map _ _ _ _ _ _ _ ht h3,Result.andThen_ok,Sem.run_pure]
 refine hK (.pointer (some ⟨z.w.heap.size,0,none⟩)) _ hup.1 hup.2 (by simp only [hH,hn]; exact BV _ _ _) (by simp [hn]) (.ptr (by simp [hn]) rfl fun o' ho' _=>?_)
 simp only [if_pos] at ho'
 cases ho'
 exact ⟨z.w.heap.size,1,by simp,by simp⟩
end
end Go.Proofs.Ytelkfhdgmbahgaa.Al

namespace Go.Proofs.Ytelkfhdgmbahgaa.Al
open Go.ChangeMaps (setBlock)
open Go.MapKept Go.RowKit
theorem Na {e' e:Aj} {h' h:AZ} {n' n N:Nat} (he : ∀ t,get e' t = .any∨get e' t=get e t) (hh : ∀ id,hget h' id=none∨hget h' id=hget h id) (hn:n≤n'):AJ ⟨e,h,n,N⟩ ⟨e',h',n',N⟩:=by
 intro c0 a w ⟨_,hdef,hsz,y,hyw,hle,hok,hH,hyn,henv⟩
 have hsub : ∀ id o,hget h' id=some o→y.H id=some o:=by
  intro id o ho
  rw [hH]
  rcases hh id with h1 | h1
  ·rw [h1] at ho; cases ho
  ·rw [← h1]; exact ho
 obtain ⟨k1,k2⟩:=Nc hok (hget h') hsub n' (by rw [hyn]; exact hn)
 refine ⟨_,hdef,hsz,{ y with H:=hget h',n:=n' },hyw,hle.trans k1,k2,rfl,rfl,fun t=>?_⟩
 rcases he t with h1 | h1
 ·rw [h1]; exact .any _
 ·rw [h1]; exact (henv t).mono k1
section
variable {P:Program} {ops:Array Oper} {rest:List Oper} {s:St} {K:St→Prop} {o:Oper}
theorem Sm {d:Nat} {x:Operand} {id g mid len:Nat} {ob:AY} {ks:List Int} {seen:List Nat} (hg:o.guard=none) (hd:o.dst=some d) (hN:d<s.N) (ho:o.op = .next x false) (hx:Ev true s.e x (.ptr id g 0 0))
  (hh:hget s.h id=some (.mj g mid ob.gen len seen)) (hm:hget s.h mid=some ob) (hk:ob.mkeys=some ks) (hl:len=ks.length)
  (hf:(∀ j,j<len→j∈seen)→AB P ops rest { e:=(d,.tup [.r (.bool false)]) :: s.e,h:=s.h,n:=s.n,N:=s.N } K)
  (ht : ∀ j,j<len→j ∉ seen→AB P ops rest { e:=(d,.tup [.r (.bool true),.any,.any]) :: s.e,h:=(id,some (.mj g mid ob.gen len (seen++[j]))) :: s.h,n:=s.n,N:=s.N } K):AB P ops (o :: rest) s K:=by
 subst hl
 intro c0 a w ⟨_,hdef,hsz,z,hzw,hle,hok,hH,hn,he⟩ Q hQ
 subst hzw
 refine wpList_plain hg fun K' hK'=>?_
 have hHid:z.H id=some (.mj g mid ob.gen ks.length seen):=by rw [hH]; exact hh
 obtain ⟨b,m,h1,h2,h3,h4⟩:=MK hok hHid (hx.rep he rfl)
 obtain ⟨bm,es,k1,k2,k3,k4,k5⟩:=Ki hok (by rw [hH]; exact hm) hk h4
 cases k2
 have hb:=(hok.own id _ b 1 hHid h1).1
 have hborn : ∀ e∈es,∃ j,j<ks.length∧es[j]? = some e∧e.born=j:=by
  intro e he'
  obtain ⟨j,hj⟩:=List.mem_iff_getElem?.1 he'
  have hjl:j<ks.length:=by have:=(List.getElem?_eq_some_iff.1 hj).1; omega
  obtain ⟨m',e1,e2,e3⟩:=k5 j ks[j] (List.getElem?_eq_getElem hjl)
  rw [hj] at e1; cases e1
  exact ⟨j,hjl,hj,e3⟩
 have hold : ∀ e∈es.toArray.toList,e.born<ks.length:=fun e he'=>by
  obtain ⟨j,h1,_,h3⟩:=hborn e (by simpa using he')
  omega
 have hN':d<a.tmps.size:=by rw [hsz]; exact hN
 unfold Oper.wp execOp
 rw [ho]
 rcases run_next_at (P:=P) z.w o.type b m ks.length ks.length seen.toArray es.toArray ks.length h3 k3 hold (Nat.le_refl _) with ⟨hleft,hrun⟩ | ⟨e,he',w1,hw1,hrun⟩
 ·simp only [h2,Sem.run_bind,hrun,Result.andThen_ok,Sem.run_pure]
  refine hK' _ _ ?_
  rw [hd]
  refine hf (fun j hj=>?_) c0 (a.put (some d) (.tuple #[.bool false])) z.w ⟨_,hdef,by simpa [Act.put] using hsz,z,rfl,hle,hok,hH,hn,he.put hN' (.tup rfl fun i a u ha hu=>?_)⟩ Q hQ
  ·obtain ⟨m',e1,_,e3⟩:=k5 j ks[j] (List.getElem?_eq_getElem hj)
   have hmem:m'∈es.toArray:=by simpa using List.mem_of_getElem? e1
   have hnl : ¬ m'∈leftOf es.toArray seen.toArray:=fun hx=>by
    have:=Array.size_pos_of_mem hx
    omega
   unfold leftOf at hnl
   rw [Array.mem_filter] at hnl
   have:seen.contains m'.born=true:=by
    have h0:=fun h=>hnl ⟨hmem,h⟩
    simpa using h0
   rw [e3] at this
   simpa using this
  ·rcases i with _ | i
   ·simp at ha hu; subst ha; subst hu; exact .r (.bool false)
   ·simp at ha
 ·have hmem:e∈es∧seen.contains e.born=false:=by
   have h0:e∈leftOf es.toArray seen.toArray:=by simpa using he'
   unfold leftOf at h0
   rw [Array.mem_filter] at h0
   exact ⟨by simpa using h0.1,by simpa using h0.2⟩
  obtain ⟨j,hj1,hj2,hj3⟩:=hborn e hmem.1
  have hns:j ∉ seen:=by
   have:=hmem.2
   rw [hj3] at this
   simpa using this
  have hwh:w1.heap=z.w.heap:=by rcases hw1 with rfl | rfl <;> rfl
  have hwo:w1.os=z.w.os:=by rcases hw1 with rfl | rfl <;> rfl
  have hwt:w1.tape=z.w.tape:=by rcases hw1 with rfl | rfl <;> rfl
  have hwu:w1.output=z.w.output:=by rcases hw1 with rfl | rfl <;> rfl
  have hup:=CB hok id (.mj g mid ob.gen ks.length (seen++[j])) (setBlock w1 b (.mapIter (some m) ks.length (seen++[j]).toArray ks.length)) (some (b,1)) z.n (by simp [setBlock,hwh]) hwo hwt hwu
   (fun b' _ hne=>by
    have:b≠b':=fun e=>hne _ 1 hHid (by rw [← e]; exact h1)
    simp [setBlock,hwh,this])
   (fun b' k' hb'=>by cases hb'; exact ⟨by simpa [setBlock,hwh] using hb,.inr ⟨_,_,hHid,h1⟩⟩) (Nat.le_refl _) (hok.obj _ _ hHid).1 (fun _=>⟨_,hHid,rfl,rfl,h1.symm⟩)
   (fun hle=>⟨b,m,rfl,by simp [setBlock,hwh,hb],h4.mono hle⟩)
  have hrun':(Instr.next (.pointer (some ⟨b,0,none⟩)) false o.type).run P z.w = .ok (.tuple #[.bool true,e.key,e.val]) (setBlock w1 b (.mapIter (some m) ks.length (seen++[j]).toArray ks.length)):=by
   rw [hrun,hj3]; simp
  simp only [h2,Sem.run_bind,hrun',Result.andThen_ok,Sem.run_pure]
  refine hK' _ _ ?_
  rw [hd]
  refine ht j hj1 hns c0 (a.put (some d) _) _ ⟨_,hdef,by simpa [Act.put] using hsz,_,rfl,hle.trans hup.1,hup.2,by simp only [hH]; exact BV _ _ _,hn,(he.mono hup.1).put hN' (.tup rfl fun i a u ha hu=>?_)⟩ Q hQ
  rcases i with _ | _ | _ | i
  ·simp at ha hu; subst ha; subst hu; exact .r (.bool true)
  ·simp at ha; subst ha; exact .any _
  ·simp at ha; subst ha; exact .any _
  ·simp at ha
end
section
variable {P:Program} {c:Bool} {o:Oper} {R:Aj} {h:AZ} {n:Nat}
theorem Pm {y:Cx} {a:Act} (hok:y.ok) (hH:y.H=hget h) {x:Operand} {id g mid len j:Nat} {ob:AY} {ks:List Int} {ys:List Nat} {k:Int} (ho:o.op = .entry x) (hv:AS y (.ptr id g 0 0) (a.eval x)) (hh:hget h id=some (.mj g mid ob.gen len (ys++[j]))) (hm:hget h mid=some ob)
  (hk:ob.mkeys=some ks) (hl:len=ks.length) (hj:ks[j]? = some k) : ∃ bm m,y.β mid=some (bm,1)∧m.key = .int .i64 k∧m.born=j∧(∀ w2,Bo y w2→(execOp a.eval o).run P w2 = .ok (.value (.tuple #[.int .i64 k,m.val])) w2) ∧
   ∃ es:List MapEntry,es[j]? = some m∧y.w.heap[bm]? = some (.map es.toArray ks.length):=by
 subst hl
 have hHid:y.H id=some (.mj g mid ob.gen ks.length (ys++[j])):=by rw [hH]; exact hh
 have hHm:y.H mid=some ob:=by rw [hH]; exact hm
 obtain ⟨b,m,h1,h2,h3,h4⟩:=MK hok hHid hv
 obtain ⟨bm,es,k1,k2,k3,k4,k5⟩:=Ki hok hHm hk h4
 cases k2
 obtain ⟨e,e1,e2,e3⟩:=k5 j k hj
 refine ⟨m,e,k1,e2,e3,fun w2 hag=>?_,es,e1,k3⟩
 have hb2:w2.heap[b]? = some (.mapIter (some m) ks.length (ys.toArray.push e.born) ks.length):=by
  rw [hag b (.inr ⟨id,_,1,hHid,.inl h1⟩),h3,e3]; simp
 have hm2:w2.heap[m]? = some (.map es.toArray ks.length):=by rw [hag m (.inr ⟨mid,_,1,hHm,.inl k1⟩)]; exact k3
 have hnd:(es.toArray.toList.map (·.born)).Nodup:=by
  have:es.map (·.born)=List.range es.length:=by
   refine List.ext_getElem? fun i=>?_
   rw [List.getElem?_map]
   by_cases hi:i<es.length
   ·obtain ⟨m',f1,_,f3⟩:=k5 i (ks[i]'(by omega)) (List.getElem?_eq_getElem (by omega))
    rw [f1,List.getElem?_range hi]
    simp [f3]
   ·rw [List.getElem?_eq_none (by omega),List.getElem?_eq_none (by simpa using hi)]; rfl
  rw [this]; exact List.nodup_range
 have hrun:=run_entry_at (P:=P) w2 b m ks.length ys.toArray es.toArray ks.length e hb2 hm2 (by simpa using List.mem_of_getElem? e1) hnd
 simp only [execOp,ho,h2,Sem.run_bind,hrun,Result.andThen_ok,Sem.run_pure,e2]
theorem Nk {α:Type} {row:α→List RV} {x:Operand} {id g mid mg ve len j:Nat} {e:TypeId} {m:List (Int × α)} {ys:List Nat} {k:Int} {a:α} (ho:o.op = .entry x) (hx:Ev c R x (.ptr id g 0 0)) (hh:hget h id=some (.mj g mid mg len (ys++[j]))) (hm:hget h mid=some (.mb mg ve e (AM row m)))
  (hl:m.length=len) (hj:m[j]? = some (k,a)) (hnd:(m.map (·.1)).Nodup):AC P c o R h (.tup [.r (.int .i64 k),.pk mid mg ve (Ac m k) 0]):=by
 intro hc y w hok hH he
 have hHm:y.H mid=some (.mb mg ve e (AM row m)):=by rw [hH]; exact hm
 obtain ⟨bm,en,k1,k2,k3,hrun,es,k4,k5⟩:=Pm hok hH (P:=P) ho (hx.rep he hc) hh hm (KT mg ve e row m) (by simp [hl]) (k:=k) (by rw [List.getElem?_map,hj]; rfl)
 refine ⟨_,hrun,.tup rfl fun i a' u' ha hu=>?_⟩
 rcases i with _ | _ | i
 ·simp at ha hu; subst ha; subst hu; exact .r (.int _ _)
 ·simp at ha hu; subst ha; subst hu
  obtain ⟨_,h0,b,es',h1,h2,h3,h4⟩:=hok.obj _ _ hHm
  rw [k1] at h1; cases h1
  rw [k5] at h2
  simp only [Option.some.injEq,Obj.map.injEq] at h2
  have hes:es=es':=by simpa using congrArg Array.toList h2.1
  obtain ⟨m',bb,cur,f1,_,_,f4,f5,_⟩:=h4 j k (row a) (by rw [Kv,hj]; rfl)
  rw [← hes,k4] at f1; cases f1
  have hD:Ac m k=j:=by
   have hg : ∃ v,AN m k=some v:=by
    cases hq:Ad m k with
    | none=>
     exfalso
     have : ∀ (l:List (Int × α)) (j:Nat),l[j]? = some (k,a)→Ad l k≠none:=by
      intro l
      induction l with
      | nil=>intro j h; simp at h
      | cons p r ih=>
       intro j h
       unfold Ad
       split
       ·simp
       ·rename_i hk
        cases j with
        | zero=>simp at h; exact absurd (by rw [h]) hk
        | succ j=>simpa using ih j (by simpa using h)
     exact this m j hj hq
    | some j'=>obtain ⟨v,_,e2,_⟩:=Bm hq; exact ⟨v,e2⟩
   obtain ⟨v,hg⟩:=hg
   obtain ⟨_,e2⟩:=FH hg
   have h1:(m.map (·.1))[Ac m k]? = some k:=by rw [List.getElem?_map,e2]; rfl
   have h2:(m.map (·.1))[j]? = some k:=by rw [List.getElem?_map,hj]; rfl
   exact (List.getElem?_inj (List.getElem?_eq_some_iff.1 h1).1 hnd).1 (h1.trans h2.symm)
  rw [hD]
  exact KV hok hHm h0 (by rw [f5]; rfl) fun q cs b c hq hK=>by rw [f4] at hK; cases hK; exact f5
 ·simp at ha
end
theorem QX {α:Type} {m:List (Int × α)} {j:Nat} {k:Int} (hj:(m.map (·.1))[j]? = some k) : ∃ a,m[j]? = some (k,a):=by
 rw [List.getElem?_map,Option.map_eq_some_iff] at hj
 obtain ⟨p,h1,rfl⟩:=hj
 exact ⟨p.2,h1⟩
section
variable {P:Program} {c:Bool} {o:Oper} {R:Aj} {h:AZ} {n:Nat}
theorem N8 {α:Type} {row:α→List RV} {x:Operand} {id g mid mg ve len j:Nat} {e:TypeId} {m:List (Int × α)} {ys:List Nat} {k:Int} (ho:o.op = .entry x) (hx:Ev c R x (.ptr id g 0 0)) (hh:hget h id=some (.mj g mid mg len (ys++[j]))) (hm:hget h mid=some (.mb mg ve e (AM row m)))
  (hl:(m.map (·.1)).length=len) (hj:(m.map (·.1))[j]? = some k) (hnd:(m.map (·.1)).Nodup):AC P c o R h (.tup [.r (.int .i64 k),.pk mid mg ve (Ac m k) 0]):=by
 obtain ⟨b,hb⟩:=QX hj
 exact Nk ho hx hh hm (by simpa using hl) hb hnd
end
section
variable {P:Program} {s:St}
theorem JW {L:Nat} {ys:List Nat} (hnd:ys.Nodup) (hlt : ∀ j∈ys,j<L) {j:Nat} (hj:j<L) (hjn:j ∉ ys):(ys++[j]).Nodup∧(ys++[j]++(List.range L).filter fun i=>!(ys++[j]).contains i).Perm (List.range L):=by
 have h0:(ys++[j]).Nodup:=by
  rw [List.nodup_append]
  exact ⟨hnd,by simp,fun a ha b hb e=>by simp at hb; subst hb; subst e; exact hjn ha⟩
 refine ⟨h0,(List.perm_ext_iff_of_nodup ?_ List.nodup_range).2 fun i=>?_⟩
 ·rw [List.nodup_append]
  refine ⟨h0,(List.nodup_range).filter _,fun a ha b hb e=>?_⟩
  subst e
  rw [List.mem_filter] at hb
  have:=hb.2
  simp only [Bool.not_eq_true',List.contains_eq_mem,decide_eq_false_iff_not] at this
  exact this ha
 ·simp only [List.mem_append,List.mem_filter,List.mem_range,Bool.not_eq_true',List.contains_eq_mem,decide_eq_false_iff_not,List.mem_singleton]
  constructor
  ·rintro ((h | rfl) | h)
   ·exact hlt i h
   ·exact hj
   ·exact h.1
  ·intro h
   by_cases hi:i∈ys∨i=j
   ·exact .inl hi
   ·exact .inr ⟨h,hi⟩
theorem OU {σ ρ:Type} {G:σ→Int→Option σ} {ks:List Int} {st0 st:σ} {rest:σ→Option ρ} {r:ρ} (hr : ∀ l:List Int,l.Perm ks→(Ce G l st0).bind rest=some r) {ys:List Nat} (hnd:ys.Nodup) (hlt : ∀ j∈ys,j<ks.length)
  (hst:Ce G (ys.map fun j=>ks.getD j 0) st0=some st) {j:Nat} (hj:j<ks.length) (hjn:j ∉ ys) : ∃ st',G st (ks.getD j 0)=some st':=by
 have hperm:=(JW hnd hlt hj hjn).2
 have hmap:((List.range ks.length).map fun j=>ks.getD j 0)=ks:=by
  refine List.ext_getElem? fun i=>?_
  rw [List.getElem?_map]
  by_cases hi:i<ks.length
  ·rw [List.getElem?_range hi]; simp [hi]
  ·rw [List.getElem?_eq_none (by simpa using hi),List.getElem?_eq_none (by omega)]; rfl
 have h:=hr _ (hmap ▸ hperm.map fun j=>ks.getD j 0)
 rw [List.map_append,List.map_append,List.append_assoc,Lw,hst] at h
 simp only [Option.bind_some,List.map_cons,List.map_nil,List.cons_append,List.nil_append,Ce] at h
 cases hG:G st (ks.getD j 0) with
 | none=>rw [hG] at h; cases h
 | some st'=>exact ⟨st',rfl⟩
theorem OM {σ ρ:Type} {G:σ→Int→Option σ} {ks:List Int} {st0 st:σ} {rest:σ→Option ρ} {r:ρ} (hr : ∀ l:List Int,l.Perm ks→(Ce G l st0).bind rest=some r) {ys:List Nat} (hnd:ys.Nodup) (hlt : ∀ j∈ys,j<ks.length)
  (hst:Ce G (ys.map fun j=>ks.getD j 0) st0=some st) (hall : ∀ j,j<ks.length→j∈ys):rest st=some r:=by
 have hperm:ys.Perm (List.range ks.length):=(List.perm_ext_iff_of_nodup hnd List.nodup_range).2 fun i=>⟨fun h=>by simpa using hlt i h,fun h=>hall i (by simpa using h)⟩
 have hmap:((List.range ks.length).map fun j=>ks.getD j 0)=ks:=by
  refine List.ext_getElem? fun i=>?_
  rw [List.getElem?_map]
  by_cases hi:i<ks.length
  ·rw [List.getElem?_range hi]; simp [hi]
  ·rw [List.getElem?_eq_none (by simpa using hi),List.getElem?_eq_none (by omega)]; rfl
 have h:=hr _ (hmap ▸ hperm.map fun j=>ks.getD j 0)
 rw [hst] at h
 exact h
theorem Sv {σ ρ:Type} {bid BI d1 d2:Nat} {o1 o2:Oper} {x:Operand} {body:Code} {Q:Exit→St→Prop} {key:σ→List Int} {F:σ→Int→Option σ} {st0:σ} {rest:σ→Option ρ} {r:ρ}
  (it:Nat) {g mid mg:Nat} (Ef:σ→(Nat→Nat)→Aj) (Hf:σ→(Nat→Nat)→AZ) (nf:(Nat→Nat)→Nat) (hr:Gj key F st0 rest=some r)
  (hw : ∃ i,AJ s ⟨Ef st0 i,(it,some (.mj g mid mg (key st0).length [])) :: Hf st0 i,nf i,s.N⟩)
  (hg1:o1.guard=none) (hd1:o1.dst=some d1) (hN1:Nat.blt d1 s.N=true) (ho1:o1.op = .next x false) (hg2:o2.guard=none) (hd2:o2.dst=some d2) (hN2:Nat.blt d2 s.N=true) (ho2:o2.op = .extract (.tmp d1) 0)
  (hx : ∀ st i,Ev true (Ef st i) x (.ptr it g 0 0)) (hE1 : ∀ st i,get (Ef st i) d1 = .any) (hE2 : ∀ st i,get (Ef st i) d2 = .any) (hm : ∀ st i,∃ ob,hget (Hf st i) mid=some ob∧ob.gen=mg∧ob.mkeys=some (key st)) (hmi:(it == mid)=false) (hdis : ∀ st i,hget (Hf st i) it=none)
  (hbody : ∀ st k j ys st' i,F st k=some st'→(key st)[j]? = some k→(key st).Nodup→(key st).length=(key st0).length→AW P body (fun e s'=>e = .normal ∧ ∃ i',AJ s' ⟨Ef st' i',(it,some (.mj g mid mg (key st0).length (ys++[j]))) :: Hf st' i',nf i',s.N⟩)
   ⟨(d2,.r (.bool true)) :: Ef st i,(it,some (.mj g mid mg (key st0).length (ys++[j]))) :: Hf st i,nf i,s.N⟩)
  (hrest : ∀ st1 i,rest st1=some r→Q .normal ⟨Ef st1 i,Hf st1 i,nf i,s.N⟩) :
  AW P (.block bid (.loop (.seq (.region BI #[o1,o2] false) (.seq (.cond (.tmp d2) .skip (.exit bid)) body)))) Q s:=by
 obtain ⟨hnd,hall⟩:=OL hr
 have hmi':it≠mid:=by simpa using hmi
 refine AW.block ?_
 let L:=(key st0).length
 refine AW.loop (fun m s'=>∃ (ys:List Nat) (st:σ) (i:Nat→Nat),ys.Nodup∧(∀ j∈ys,j<L)∧m=L-ys.length∧key st=key st0∧Ce (Fj key (key st0) F) (ys.map fun j=>(key st0).getD j 0) st0=some st∧s'=⟨Ef st i,(it,some (.mj g mid mg L ys)) :: Hf st i,nf i,s.N⟩) L
  (by obtain ⟨i,hw⟩:=hw; exact ⟨_,hw,[],st0,i,by simp,by simp,by simp,rfl,rfl,rfl⟩) ?_
 rintro m s' ⟨ys,st,i,hys,hlt,rfl,hks,hfold,rfl⟩
 obtain ⟨ob,hob,hobg,hobk⟩:=hm st i
 refine AW.seq (AW.region (l:=[o1,o2]) ?_)
 refine Sm (ob:=ob) (ks:=key st) (id:=it) (g:=g) (mid:=mid) (len:=L) (seen:=ys) hg1 hd1 (Bd hN1) ho1 (hx st i) (by rw [BM,if_pos rfl,hobg]) (by rw [BM,if_neg hmi']; exact hob) hobk (by rw [hks]) (fun hdone=>?_) (fun j hj hjn=>?_)
 ·
  refine AB.step hg2 hd2 hN2 (AD (CJ ho2 (vs:=[.r (.bool false)]) (by exact .inl (by rw [show ∀ e,Df e (.tmp d1)=get e d1 from fun _=>rfl,B7,if_pos rfl])) rfl) _) (AB.nil ?_)
  refine AW.seq (AW.cond (b:=false) (by rw [show ∀ e,Df e (.tmp d2)=get e d2 from fun _=>rfl,B7,if_pos rfl]) (fun h=>by cases h) fun _=>Sk (AW.exit ⟨⟨Ef st i,Hf st i,nf i,s.N⟩,Na (fun t=>?_) (fun id=>?_) (Nat.le_refl _),?_⟩))
  ·rw [B7,B7]
   by_cases h2:d2=t
   ·subst h2; exact .inl (hE2 st i)
   ·rw [if_neg h2]
    by_cases h1:d1=t
    ·subst h1; exact .inl (hE1 st i)
    ·rw [if_neg h1]; exact .inr rfl
  ·rw [BM]
   by_cases h1:it=id
   ·subst h1; exact .inl (hdis st i)
   ·rw [if_neg h1]; exact .inr rfl
  ·show KN bid Q (.exit bid) _
   show (if bid=bid then Q .normal _ else _)
   rw [if_pos rfl]
   exact hrest st i (OM hall hys hlt hfold hdone)
 ·
  obtain ⟨st',hst'⟩:=OU hall hys hlt hfold hj hjn
  have hk:(key st)[j]? = some ((key st0).getD j 0):=by rw [hks]; simp [List.getD,List.getElem?_eq_getElem hj]
  have hF:F st ((key st0).getD j 0)=some st'∧key st'=key st0:=by
   unfold Fj at hst'
   rw [Option.bind_eq_some_iff] at hst'
   obtain ⟨st2,h1,h2⟩:=hst'
   split at h2
   ·rename_i h3; cases h2; exact ⟨h1,h3⟩
   ·cases h2
  refine AB.step hg2 hd2 hN2 (AD (CJ ho2 (vs:=[.r (.bool true),.any,.any]) (by exact .inl (by rw [show ∀ e,Df e (.tmp d1)=get e d1 from fun _=>rfl,B7,if_pos rfl])) rfl) _) (AB.nil ?_)
  refine AW.seq (AW.cond (b:=true) (by rw [show ∀ e,Df e (.tmp d2)=get e d2 from fun _=>rfl,B7,if_pos rfl]) (fun _=>AW.skip ?_) fun h=>by cases h)
  show AW P body _ _
  refine AW.weak (s':=⟨(d2,.r (.bool true)) :: Ef st i,(it,some (.mj g mid mg L (ys++[j]))) :: Hf st i,nf i,s.N⟩) (Na (fun t=>?_) (fun id=>?_) (Nat.le_refl _)) ?_
  ·rw [B7,B7,B7]
   by_cases h2:d2=t
   ·rw [if_pos h2,if_pos h2]; exact .inr rfl
   ·rw [if_neg h2,if_neg h2]
    by_cases h1:d1=t
    ·subst h1; exact .inl (hE1 st i)
    ·rw [if_neg h1]; exact .inr rfl
  ·rw [BM,BM,BM]
   by_cases h1:it=id
   ·rw [if_pos h1,if_pos h1,hobg]; exact .inr rfl
   ·rw [if_neg h1,if_neg h1,if_neg h1]; exact .inr rfl
  ·refine (hbody st _ j ys st' i hF.1 hk (by rw [hks]; exact hnd) (by rw [hks])).mono fun e s2 ⟨he,i',hw2⟩=>?_
   subst he
   refine ⟨L-(ys++[j]).length,?_,_,hw2,ys++[j],st',i',?_,?_,rfl,hF.2,?_,rfl⟩
   ·have hlen:ys.length<L:=by
     have h1:=(JW hys hlt hj hjn).2.length_eq
     simp only [List.length_append,List.length_singleton,List.length_range] at h1
     omega
    simp; omega
   ·exact (JW hys hlt hj hjn).1
   ·intro a ha
    simp only [List.mem_append,List.mem_singleton] at ha
    rcases ha with ha | rfl
    ·exact hlt a ha
    ·exact hj
   ·rw [List.map_append,Lw,hfold]
    simp only [Option.bind_some,List.map_cons,List.map_nil,Ce,hst']
end
end Go.Proofs.Ytelkfhdgmbahgaa.Al

namespace Go.Proofs.Ytelkfhdgmbahgaa.Al
open Go.MapKept Go.RowKit
section
variable {P:Program} {c:Bool} {o:Oper} {R:Aj} {h:AZ} {n:Nat}
theorem En {t:TypeId} {z:Value} (h:Bn P t z) (w:World):(zeroValue t).run P w = .ok z w:=by
 obtain ⟨i,h1,h2⟩:=h
 simp [zeroValue,typeInfo,h1,h2]
theorem KR {α:Type} (rd:α→RV) {t:TypeId} (id:Nat) (ho:o.op = .makeMap t none):A2 P c o R h n (.mref id n) ((id,some (.md n (AM rd ([]:List (Int × α))))) :: h) (n+1):=P2 id ho
theorem Pa {α:Type} (row:α→List RV) {t:TypeId} (id:Nat) (e:TypeId) (ho:o.op = .makeMap t none):A2 P c o R h n (.mref id n) ((id,some (.mb n n e (AM row ([]:List (Int × α))))) :: h) (n+1):=Rr id e ho
theorem RQ {α:Type} (f:α→List RV) {t:TypeId} (id:Nat) (e:TypeId) (sz:Nat) (ho:o.op = .makeMap t none) (hsz:Nat.blt 0 sz=true) :
  A2 P c o R h n (.mref id n) ((id,some (.mr n n e sz none (AM (fun (l:List α)=>l.map f) []))) :: h) (n+1):=Ov id e sz ho hsz
theorem Gs {α:Type} {row:α→List RV} {m m0:List (Int × α)} {k:Int} {a:α} (hk:Ac m0 k=Ac m k) (hs:AN m k=some a):(AM row m)[Ac m0 k]? = some (k,row a):=by
 rw [hk,Kv,(FH hs).2]; rfl
theorem JE {α:Type} {row:α→List RV} {t:TypeId} {x:Operand} {f off:Nat} {id g ve q:Nat} {e:TypeId} {m m0:List (Int × α)} {k:Int} {a:α} (ho:o.op = .fieldAddr t x f) (ht:BF P t f off) (hx:Ev c R x (.pk id g ve (Ac m0 k) q)) (hh:hget h id=some (.mb g ve e (AM row m)))
  (hk:Ac m0 k=Ac m k) (hs:c=true→AN m k=some a):AC P c o R h (.pk id g ve (Ac m0 k) (q+off)):=
 OX ho ht hx hh fun hc=>by rw [Gs hk (hs hc)]; rfl
theorem KC {α:Type} {row:α→List RV} {t:TypeId} {x:Operand} {id g ve q:Nat} {e:TypeId} {m m0:List (Int × α)} {k:Int} {a:α} {d:RV} (ho:o.op = .load t x) (ht:BP P t) (hx:Ev c R x (.pk id g ve (Ac m0 k) q)) (hh:hget h id=some (.mb g ve e (AM row m)))
  (hk:Ac m0 k=Ac m k) (hs:c=true→AN m k=some a) (hd:(row a)[q]? = some d):AC P c o R h (.r d):=
 N3 ho ht hx hh (fun hc=>Gs hk (hs hc)) hd
theorem Mb {α:Type} {row:α→List RV} {t:TypeId} {x:Operand} {id g ve sz:Nat} {e:TypeId} {m m0:List (Int × α)} {k:Int} {a:α} {cs:List AV} (ho:o.op = .load t x) (ht:B0 P t sz) (hx:Ev c R x (.pk id g ve (Ac m0 k) 0)) (hh:hget h id=some (.mb g ve e (AM row m)))
  (hk:Ac m0 k=Ac m k) (hs:c=true→AN m k=some a) (hl:(row a).length=sz) (hcs:(row a).map .r=cs):AC P c o R h (.agg cs):=by
 subst hcs
 exact R6 ho ht hx hh (fun hc=>Gs hk (hs hc)) hl
theorem OA {α β:Type} {row:α→β} {m:List (Int × α)} {k:Int} {a a':α} (hs:AN m k=some a):(AM row m).set (Ac m k) (k,row a')=AM row (Ai m k a'):=by
 have h1:AN (AM row m) k=some (row a):=by rw [Fi,hs]; rfl
 rw [← Is]
 obtain ⟨e1,_⟩:=FH h1
 obtain ⟨_,_,_,e2⟩:=Bm e1
 rw [e2,Ia]
theorem PK {α:Type} {row:α→List RV} {t:TypeId} {x y:Operand} {id g ve q:Nat} {e:TypeId} {m m0:List (Int × α)} {k:Int} {a a':α} {d:RV} (ho:o.op = .store t x y) (ht : ∃ i,P.info? t=some i∧i.size=1) (hx:Ev c R x (.pk id g ve (Ac m0 k) q)) (hh:hget h id=some (.mb g ve e (AM row m)))
  (hk:Ac m0 k=Ac m k) (hs:AN m k=some a) (hy:Ev c R y (.r d)) (hq:Nat.blt q (row a).length=true) (ha:(row a).set q d=row a'):A2 P c o R h n .any ((id,some (.mb g ve e (AM row (Ai m k a')))) :: h) n:=by
 have:=Qt (n:=n) ho ht hx hh (Gs hk hs) hq hy
 rwa [ha,hk,OA hs] at this
theorem F7 {α:Type} {row:α→List RV} {x:Operand} {id g ve q:Nat} {e:TypeId} {m m0:List (Int × α)} {k:Int} {a:α} (ho:o.op = .nilCheck x) (hx:Ev c R x (.pk id g ve (Ac m0 k) q)) (hh:hget h id=some (.mb g ve e (AM row m)))
  (hk:Ac m0 k=Ac m k) (hs:c=true→AN m k=some a):AC P c o R h (.pk id g ve (Ac m0 k) q):=by
 intro hc z w hok hH he
 have hHid:z.H id=some (.mb g ve e (AM row m)):=by rw [hH]; exact hh
 have hv:=hx.rep he hc
 obtain ⟨bb,cur,k1,k2,_⟩:=H5 hok hHid hv (Gs hk (hs hc))
 refine ⟨w.eval x,fun w2 hag=>?_,hv⟩
 unfold execOp
 rw [ho]
 simp [k2]
theorem Je {α:Type} {f:α→List RV} {t kt et:TypeId} {x i:Operand} {id g ve:Nat} {e:TypeId} {sz:Nat} {m:List (Int × List α)} {k:Int} (ho:o.op = .lookup t x i false) (ht:P.underlying t=some (.map kt et))
  (hk:P.underlying kt=some (.int .i64)) (hz : ∀ w,(zeroValue et).run P w = .ok (.slice none 0 0) w) (hx:Ev c R x (.mref id g)) (hi:Ev c R i (.r (.int .i64 k))) (hh:hget h id=some (.mr g ve e sz none (AM (fun (l:List α)=>l.map f) m))) :
  AC P c o R h (.fo id g ve k):=Po ho ht hk hz hx hi hh
theorem GW {α:Type} {f:α→List RV} {m:List (Int × List α)} {k:Int} : (AN (AM (fun (l:List α)=>l.map f) m) k).getD []=((AN m k).getD []).map f:=by
 rw [Fi]
 cases AN m k <;> rfl
theorem Rd {α:Type} {f:α→List RV} {t:TypeId} {e e':TypeId} {sz sz':Nat} {x:Operand} {id g ve:Nat} {hole:Option (Nat × Bool)} {m:List (Int × List α)} {k:Int} (ho:o.op = .call { callee:=.builtin .len,args:=#[x],argTypes:=#[t] }) (ht:CT P t e sz)
  (hx:Ev c R x (.fo id g ve k)) (hh:hget h id=some (.mr g ve e' sz' hole (AM (fun (l:List α)=>l.map f) m))):AC P c o R h (.r (.int .i64 ((AN m k).getD []).length)):=by
 have:=O0 ho ht hx hh
 rwa [GW,List.length_map] at this
theorem Rg {α:Type} {f:α→List RV} {t e e':TypeId} {sz:Nat} {x y:Operand} {id g ve:Nat} {hole:Option (Nat × Bool)} {m:List (Int × List α)} {k:Int} {kd:IntKind} {z:Int} {a:α} (ho:o.op = .indexAddr t x y) (ht:CT P t e sz) (hx:Ev c R x (.fo id g ve k))
  (hh:hget h id=some (.mr g ve e' sz hole (AM (fun (l:List α)=>l.map f) m))) (hy:Ev c R y (.r (.int kd z))) (hi:c=true→Ak ((AN m k).getD []) z=some a):AC P c o R h (.pk id g ve (Ac m k) (z.toNat * sz)):=by
 have:=R0 (row:=f a) ho ht hx hh hy fun hc=>by
  rw [GW]
  have h1:=Cv (hi hc)
  unfold Ak
  rw [if_pos h1.1,List.getElem?_map,h1.2.1]; rfl
 rwa [Ia] at this
theorem PP {α:Type} {f:α→List RV} {t:TypeId} {x:Operand} {id g ve:Nat} {e:TypeId} {sz:Nat} {hole:Option (Nat × Bool)} {m:List (Int × List α)} {k z:Int} {a:α} {cs:List AV} (ho:o.op = .load t x) (ht:B0 P t sz) (hx:Ev c R x (.pk id g ve (Ac m k) (z.toNat * sz))) (hh:hget h id=some (.mr g ve e sz hole (AM (fun (l:List α)=>l.map f) m)))
  (hi:c=true→Ak ((AN m k).getD []) z=some a) (hcs:(f a).map .r=cs):AC P c o R h (.agg cs):=by
 subst hcs
 rw [← Ia (fun (l:List α)=>l.map f)] at hx
 exact OK ho ht hx hh fun hc=>by
  rw [GW]
  have h1:=Cv (hi hc)
  unfold Ak
  rw [if_pos h1.1,List.getElem?_map,h1.2.1]; rfl
theorem O2 {α:Type} {f:α→List RV} {t e:TypeId} {sz by_:Nat} {s x:Operand} {id g ve:Nat} {m:List (Int × List α)} {k:Int} {ys r:List α} (ho:o.op = .call { callee:=.builtin .append,args:=#[s,x],argTypes:=#[t,t] }) (ht:Bk P t e sz by_)
  (hs:Ev c R s (.fo id g ve k)) (hh:hget h id=some (.mr g ve e sz none (AM (fun (l:List α)=>l.map f) m))) (hx:FP c R h x sz (ys.map f)) (hy0:ys.isEmpty=false) (hr:app by_ ((AN m k).getD []) ys=some r) :
  A2 P c o R h n (.fo id g n k) ((id,some (.mr g n e sz (some (Ac m k,(AN m k).isNone)) (AM (fun (l:List α)=>l.map f) (Ai m k r)))) :: h) (n+1):=by
 obtain ⟨h1,h2,rfl⟩:=Jc hr
 have:=Pu (n:=n) ho ht hs hh hx (by cases ys with | nil=>cases hy0 | cons _ _=>rfl) (by rw [GW]; simpa using h1) (by rw [GW]; simpa using h2)
 rw [GW,Ia,Fi,Option.isNone_map,← List.map_append,Is (fun (l:List α)=>l.map f)] at this
 exact this
theorem SZ {α:Type} {f:α→List RV} {t kt et:TypeId} {x i y:Operand} {id g ve:Nat} {e:TypeId} {sz:Nat} {m:List (Int × List α)} {k:Int} {nw:Bool} {r:List α} (ho:o.op = .mapUpdate t x i y∨o.op = .insert t x i y) (ht:P.underlying t=some (.map kt et)) (hk:P.underlying kt=some (.int .i64))
  (hx:Ev c R x (.mref id g)) (hi:Ev c R i (.r (.int .i64 k))) (hy:Ev c R y (.fo id g ve k)) (hh:hget h id=some (.mr g ve e sz (some (Ac m k,nw)) (AM (fun (l:List α)=>l.map f) (Ai m k r)))) :
  A2 P c o R h n .any ((id,some (.mr g ve e sz none (AM (fun (l:List α)=>l.map f) (Ai m k r)))) :: h) n:=
 SB ho ht hk hx hi hy hh (by rw [GA,It])
end
theorem Q3 {a b c α:Type} {x:a} {y:b} {z:c} {f:a→b→c→Option α} {r:α} (h:EW (some (x,y,z)) f=some r):f x y z=some r:=h
end Go.Proofs.Ytelkfhdgmbahgaa.Al

set_option linter.all false
set_option maxHeartbeats 4000000
set_option maxRecDepth 20000
namespace Go.Proofs.Ytelkfhdgmbahgaa.Al
open Go
def I5 {α:Type} : Result α→World
 | .ok _ w=>w
 | .halt _ w=>w
def By:Go.GStep→Nat
 | .go _ w _=>w.drawn
 | .comm _ _ _ _ w _=>w.drawn
 | .spawn _ _ w _=>w.drawn
 | .count _ w _=>w.drawn
 | .timer _ _ w _=>w.drawn
 | .alone _ _ w _=>w.drawn
 | .newcoro _ _ _ w _=>w.drawn
 | .coroswitch _ _ _ w _=>w.drawn
 | .collect _ w _=>w.drawn
 | .watch _ w _=>w.drawn
 | .ended _ w _=>w.drawn
@[simp] theorem FA (es:Array Event) (s:Go.GStep):(By (Go.GStep.after es s))=(By s):=by cases s <;> rfl
theorem Oj {α:Type} (a:Ask α) : ∀ w:World,w.drawn≤(w.ask a).2.drawn:=by
 induction a with
 | done a=>intro w; exact Nat.le_refl _
 | ask what range k ih=>
  intro w
  unfold World.ask
  simp only
  split
  ·exact ih _ w
  ·exact Nat.le_trans (Nat.le_succ _) (ih _ { w with drawn:=w.drawn+1 })
theorem Ko (w:World) (c:Sys):w.drawn≤(w.sys c).2.drawn:=by
 unfold World.sys
 have h:=Oj (Kernel.perform c w.os) w
 split
 ·exact Nat.le_refl _
 ·rename_i r os w' _ hh
  rw [hh] at h
  exact h
theorem MO (w:World) (a:Addr) (v:Value):(w.setCell a v).drawn=w.drawn:=rfl
theorem Mj (w:World) (a:Addr) (n:Nat):(w.freeze a n).drawn=w.drawn:=by unfold World.freeze; split <;> rfl
theorem RR {p:Program} {w w':World} {at_:Addr} {u:TypeId} {k:Addr} {v:Value} {b:Bool} {l:List Addr} (h:w.viewStore p at_ u k v b = .ok (w',l)):w'.drawn=w.drawn:=by
 unfold World.viewStore at h
 simp only [bind,Except.bind,pure,Except.pure] at h
 repeat' split at h
 all_goals first | (cases h; done) | skip
 all_goals (try (simp only [Except.ok.injEq,Prod.mk.injEq] at h; rw [← h.1]))
theorem NV {p:Program} {w w':World} {a:Addr} {v:Value} {b:Bool} {l:List Addr} (h:w.farStore p a v b = .ok (w',l)):w'.drawn=w.drawn:=by
 unfold World.farStore at h
 split at h
 ·split at h
  ·rename_i hh
   cases h
   exact RR hh
  ·cases h
 ·cases h
theorem Jj {α:Type} (p:Program) (s:Sem α) : ∀ w:World,w.drawn≤(I5 (s.run p w)).drawn:=by
 induction s with
 | pure a=>intro w; exact Nat.le_refl _
 | load m a k ih=>
  intro w; unfold Sem.run
  split
  ·exact ih _ w
  ·split
   ·exact ih _ w
   ·exact Nat.le_refl _
 | store m a v k ih=>
  intro w; unfold Sem.run
  split <;> first | exact Nat.le_refl _ | (rename_i hh; cases hh; done) | skip
  rename_i hh; cases hh
  all_goals (split <;> first | exact Nat.le_refl _ | skip)
  all_goals (try (split <;> first | exact Nat.le_refl _ | skip))
  all_goals first | exact Nat.le_trans (Nat.le_of_eq (MO _ _ _).symm) (ih _) | (rename_i hh; exact Nat.le_trans (Nat.le_of_eq (NV hh).symm) (ih _)) | skip
 | new o k ih=>intro w; unfold Sem.run; exact ih _ { w with heap:=w.heap.push o }
 | shape r k ih=>intro w; unfold Sem.run; exact ih _ w
 | freeze a n k ih=>intro w; unfold Sem.run; exact Nat.le_trans (Nat.le_of_eq (Mj w a n).symm) (ih _)
 | frozen a k ih=>intro w; unfold Sem.run; exact ih _ w
 | getObj r k ih=>
  intro w; unfold Sem.run
  split <;> first | exact Nat.le_refl _ | exact ih _ w
 | setObj r o k ih=>
  intro w; unfold Sem.run
  split <;> first | exact Nat.le_refl _ | exact ih { w with heap:=w.heap.setIfInBounds r o }
 | choose q k ih=>
  intro w; unfold Sem.run
  split
  ·exact ih _ w
  ·exact Nat.le_trans (Nat.le_succ _) (ih _ { w with drawn:=w.drawn+1 })
 | sys c k ih=>intro w; unfold Sem.run; exact Nat.le_trans (Ko w c) (ih _ _)
 | program k ih=>intro w; unfold Sem.run; exact ih _ w
 | mark m k ih=>intro w; unfold Sem.run; exact ih w
 | halt h=>intro w; exact Nat.le_refl _
theorem EP {α:Type} (p:Program) (s:Sem α) : ∀ (w:World) (es:Array Event),w.drawn≤(I5 ((s.runT p w es).1)).drawn:=by
 induction s with
 | pure a=>intro w es; exact Nat.le_refl _
 | load m a k ih=>
  intro w es; unfold Sem.runT
  split
  ·exact ih _ w _
  ·split
   ·exact ih _ w _
   ·exact Nat.le_refl _
 | store m a v k ih=>
  intro w es; unfold Sem.runT
  split <;> first | exact Nat.le_refl _ | (rename_i hh; cases hh; done) | skip
  rename_i hh; cases hh
  all_goals (split <;> first | exact Nat.le_refl _ | skip)
  all_goals (try (split <;> first | exact Nat.le_refl _ | skip))
  all_goals first | exact Nat.le_trans (Nat.le_of_eq (MO _ _ _).symm) (ih _ _) | (rename_i hh; exact Nat.le_trans (Nat.le_of_eq (NV hh).symm) (ih _ _)) | skip
 | new o k ih=>intro w es; unfold Sem.runT; exact ih _ { w with heap:=w.heap.push o } _
 | shape r k ih=>intro w es; unfold Sem.runT; exact ih _ w _
 | freeze a n k ih=>intro w es; unfold Sem.runT; exact Nat.le_trans (Nat.le_of_eq (Mj w a n).symm) (ih _ _)
 | frozen a k ih=>intro w es; unfold Sem.runT; exact ih _ w _
 | getObj r k ih=>
  intro w es; unfold Sem.runT
  split <;> first | exact Nat.le_refl _ | exact ih _ w _
 | setObj r o k ih=>
  intro w es; unfold Sem.runT
  split <;> first | exact Nat.le_refl _ | exact ih { w with heap:=w.heap.setIfInBounds r o } _
 | choose q k ih=>
  intro w es; unfold Sem.runT
  split
  ·exact ih _ w _
  ·exact Nat.le_trans (Nat.le_succ _) (ih _ { w with drawn:=w.drawn+1 } _)
 | sys c k ih=>intro w es; unfold Sem.runT; exact Nat.le_trans (Ko w c) (ih _ _ _)
 | program k ih=>intro w es; unfold Sem.runT; exact ih _ w _
 | mark m k ih=>intro w es; unfold Sem.runT; exact ih w _
 | halt h=>intro w es; exact Nat.le_refl _
theorem CQ {α:Type} {p:Program} {s:Sem α} {w w':World} {a:α} (h:s.run p w = .ok a w'):w.drawn≤w'.drawn:=by
 have:=Jj p s w; rw [h] at this; exact this
theorem E4 {α:Type} {p:Program} {s:Sem α} {w w':World} {a:Halt} (h:s.run p w = .halt a w'):w.drawn≤w'.drawn:=by
 have:=Jj p s w; rw [h] at this; exact this
theorem J0 (fr:Frame) (m:String) (w:World):(By (endThrow fr m w))=w.drawn:=rfl
theorem PF (w:World) (fd:Nat) (t:ByteArray) (o:Outcome):w.drawn≤(By (endWith w fd t o)):=by
 unfold endWith
 have h:=Ko w (.write fd t)
 generalize w.sys (.write fd t)=r at h
 obtain ⟨r,w'⟩:=r
 cases r <;> first | exact h | (simp only; split <;> exact h)
theorem MF (p:Program) (fr:Frame) (v:Value) (w:World):(By (endPrinting p fr v w))=w.drawn:=by
 unfold endPrinting
 simp only
 split <;> rfl
theorem Lv (p:Program) (fr:Frame) (cs:List Frame) (d:Option Dying) (m:String) (w:World):w.drawn≤(By (endFatal p fr cs d m w)):=by
 unfold endFatal
 simp only
 split
 ·rename_i hh; exact CQ hh
 ·rename_i hh; exact E4 hh
 ·rename_i hh; exact E4 hh
theorem OD (p:Program) (fr:Frame) (d:Dying) (f:Fatal) (w:World):w.drawn≤(By (writeOn p fr d f w)):=by
 unfold writeOn
 simp only
 split
 ·exact Nat.le_refl _
 ·generalize hs:Sem.runT p _ w #[]=r
  have h:w.drawn≤(I5 r.1).drawn:=by rw [← hs]; exact EP p _ w _
  obtain ⟨r,es⟩:=r
  split <;> (rename_i hh; cases hh; exact h)
theorem SG (p:Program) (fr:Frame) (d:Dying) (w:World):w.drawn≤(By (die p fr d w)):=by
 unfold die
 split
 ·exact OD _ _ _ _ _
 ·split
  ·split
   ·exact Nat.le_refl _
   ·exact PF _ _ _ _
  ·simp only
   split
   ·exact Nat.le_refl _
   ·split
    ·rename_i hh; exact CQ hh
    ·rename_i hh; exact E4 hh
   ·rename_i t recv name _
    have h:=EP p (invoke (.fn (.method name) #[]) #[.iface t recv]) w #[]
    generalize Sem.runT p _ w #[]=r at h ⊢
    obtain ⟨r,es⟩:=r
    simp only [FA]
    split <;> first | exact h | (rw [MF]; exact h) | skip
    all_goals exact Nat.le_refl _
   ·exact Nat.le_refl _
theorem KX (p:Program) (main:Bool) (fr:Frame) (cs:List Frame) (d:Option Dying) (v:Value) (w:World):(By (doReturn p main fr cs d v w))=w.drawn:=by
 unfold doReturn
 split
 ·split <;> rfl
 ·split <;> first | rfl | skip
  split
  ·rfl
  ·split <;> rfl
theorem IC {c:Prop} [Decidable c] {a b:Go.GStep} {n:Nat} (ha:n≤(By a)) (hb:n≤(By b)):n≤(By (if c then a else b)):=by split <;> assumption
theorem Oo (p:Program) (fr:Frame) (cs:List Frame) (d:Option Dying) (df:Deferred) (w:World):w.drawn≤(By (callDeferred p fr cs d df w)):=by
 unfold callDeferred
 refine IC (Nat.le_refl _) ?_
 ·have h:=EP p (invoke df.target df.args) w #[]
  generalize Sem.runT p (invoke df.target df.args) w #[]=r at h ⊢
  obtain ⟨r,es⟩:=r
  simp only [FA]
  split <;> first | exact h | (rw [J0]; exact h) | exact Nat.le_trans h (Lv _ _ _ _ _ _) | (split <;> exact h)
theorem Pz (p:Program) (main:Bool) (fr:Frame) (cs:List Frame) (d:Option Dying) (w:World):w.drawn≤(By (unwind p main fr cs d w)):=by
 unfold unwind
 split
 ·rename_i block _ ds _
  have h:=EP p (Instr.takeDeferred block) w #[]
  generalize Sem.runT p (Instr.takeDeferred block) w #[]=r at h ⊢
  obtain ⟨r,es⟩:=r
  simp only [FA]
  split <;> exact h
 ·exact Oo _ _ _ _ _ _
 ·split
  ·exact Nat.le_refl _
  ·split
   ·exact Nat.le_refl _
   ·split
    ·exact Nat.le_refl _
    ·split
     ·split
      ·exact Nat.le_refl _
      ·split
       ·rename_i hh; exact CQ hh
       ·rename_i hh; exact E4 hh
       ·rename_i hh; exact E4 hh
     ·split
      ·rw [MF]; exact Nat.le_refl _
      ·exact Nat.le_refl _
  ·split
   ·rw [KX]; exact Nat.le_refl _
   ·rename_i fn _
    have h:=EP p (results fn fr.tmps) w #[]
    generalize Sem.runT p (results fn fr.tmps) w #[]=r at h ⊢
    obtain ⟨r,es⟩:=r
    simp only [FA]
    split <;> first | exact h | (rw [KX]; exact h)
theorem PX (p:Program) (fr:Frame) (cs:List Frame) (d:Option Dying) (g:Nat) (w:World):w.drawn≤(By (early p fr cs d g w)):=by
 have hn : ∀ w1:World,w.drawn≤w1.drawn→w.drawn≤(By (match w1.heap[g]? with
  | some (.pending c elem)=>Go.GStep.go { frame:=fr,callers:=cs,status:=.running,dying:=d } { w1 with heap:=w1.heap.setIfInBounds g (.cells c elem) }
  | _ => .ended (.stuck "early: the variable does not wait" (fr.pos p)) w1)) := by
  intro w1 h1
  split <;> exact h1
 unfold early
 simp only
 split
 ·exact hn w (Nat.le_refl _)
 ·split
  ·exact Nat.le_refl _
  ·split
   ·exact hn w (Nat.le_refl _)
   ·split
    ·exact hn w (Nat.le_refl _)
    ·split
     ·exact Nat.le_refl _
     ·exact Nat.le_refl _
     ·exact Nat.le_refl _
     ·exact hn w (Nat.le_refl _)
     ·split
      ·exact Nat.le_refl _
      ·split
       ·exact hn w (Nat.le_refl _)
       ·split
        ·rename_i hh; exact hn _ (CQ hh)
        ·rename_i hh; exact CQ hh
        ·rename_i hh; exact E4 hh
theorem H2 (p:Program) (listen:Bool) (fr:Frame) (cs:List Frame) (d:Option Dying) (s:Sem Next) (w:World):w.drawn≤(By (stepG.apply p listen fr cs d s w)):=by
 unfold stepG.apply
 have h:w.drawn≤(I5 ((if listen then s.runT p w #[] else (s.run p w,#[])).1)).drawn:=by
  split
  ·exact EP p s w #[]
  ·exact Jj p s w
 generalize (if listen then s.runT p w #[] else (s.run p w,#[]))=r at h ⊢
 obtain ⟨r,es⟩:=r
 simp only [FA]
 split <;> first | exact h | (rw [J0]; exact h) | exact Nat.le_trans h (Lv _ _ _ _ _ _) | exact Nat.le_trans h (PX _ _ _ _ _ _) | skip
 all_goals first | (split <;> exact h) | exact IC h h | exact IC (by rw [J0]; exact h) h
theorem Pn (p:Program) (listen:Bool) (fr:Frame) (cs:List Frame) (d:Option Dying) (w:World):w.drawn≤(By (stepG.oper p listen fr cs d w)):=by
 unfold stepG.oper
 split
 ·exact Nat.le_refl _
 ·split <;> exact H2 _ _ _ _ _ _ _
theorem OQ (p:Program) (main:Bool) (listen:Bool) (fr:Frame) (cs:List Frame) (d:Option Dying) (w:World):w.drawn≤(By (stepG.exec p main listen fr cs d w)):=by
 have hl : ∀ jump:Option Code,w.drawn≤(By (match fr.roundOf with
   | none => if jump matches none | some .ret then Go.GStep.go { frame := { fr with mode := .returning }, callers := cs, status := .running, dying := d } w else .ended (.stuck "exit, goto: no such block or label" (fr.pos p)) w
   | some l=>
    let (r,es):=(Instr.endRound l jump).runT p w #[]
    Go.GStep.after (seen p fr.fn es) <| match r with
    | .ok v w=>doReturn p main fr cs d v w
    | .halt _ w => .ended (.stuck "range over a function: no such loop" (fr.pos p)) w)) := by
  intro jump
  split
  ·exact IC (Nat.le_refl _) (Nat.le_refl _)
  ·rename_i l _
   have h:=EP p (Instr.endRound l jump) w #[]
   generalize Sem.runT p (Instr.endRound l jump) w #[]=r at h ⊢
   obtain ⟨r,es⟩:=r
   simp only [FA]
   split
   ·rw [KX]; exact h
   ·exact h
 unfold stepG.exec
 simp only
 split
 ·exact hl none
 ·exact hl (some .ret)
 all_goals first | exact Nat.le_refl _ | skip
 ·split <;> exact Nat.le_refl _
 ·rename_i id k _
  cases exitTo id k with
  | none=>exact hl (some (.exit id))
  | some t=>exact Nat.le_refl _
 ·rename_i l k _
  cases gotoIn l k with
  | none=>exact hl (some (.goto l))
  | some t=>exact Nat.le_refl _
 ·rename_i f params assign body k _
  have h:=EP p (Instr.enterLoop fr.fn fr.tmps params assign body fr.roundOf) w #[]
  generalize Sem.runT p (Instr.enterLoop fr.fn fr.tmps params assign body fr.roundOf) w #[]=r at h ⊢
  obtain ⟨r,es⟩:=r
  simp only [FA]
  split
  ·exact Nat.le_trans h (H2 _ _ _ _ _ _ _)
  ·exact h
 ·exact H2 _ _ _ _ _ _ _
 ·rename_i l k _
  have h:=EP p (Instr.endLoop l) w #[]
  generalize Sem.runT p (Instr.endLoop l) w #[]=r at h ⊢
  obtain ⟨r,es⟩:=r
  simp only [FA]
  split <;> exact h
 ·exact H2 _ _ _ _ _ _ _
 ·rename_i row args _ _
  cases Extern.next row with
  | none=>exact Nat.le_refl _
  | some e=>exact H2 _ _ _ _ _ _ _
 ·split
  ·exact Nat.le_refl _
  ·split
   ·rename_i hh; exact CQ hh
   ·rename_i hh; exact E4 hh
 ·exact IC (Pn _ _ _ _ _ _) (Nat.le_refl _)
theorem Nq (p:Program) (main:Bool) (g:Goroutine) (w:World) (listen:Bool):w.drawn≤(By (stepG p main g w listen)):=by
 unfold stepG
 simp only
 split
 ·exact SG _ _ _ _
 ·exact OQ _ _ _ _ _ _ _
 ·exact Pz _ _ _ _ _ _
def Cp (n:Nat):Stepped→Prop
 | .next m=>n≤m.world.drawn
 | .ended _ _=>True
theorem H6 {s:Stepped} {a b:Nat} (h:Cp a s) (hb:b≤a):Cp b s:=by
 cases s with
 | next m=>exact Nat.le_trans hb h
 | ended _ _=>trivial
theorem NA {c:Prop} [Decidable c] {a b:Stepped} {n:Nat} (ha:Cp n a) (hb:Cp n b):Cp n (if c then a else b):=by split <;> assumption
theorem JZ {β:Type} {c:Prop} [Decidable c] {a b:Stepped × β} {n:Nat} (ha:Cp n a.1) (hb:Cp n b.1):Cp n ((if c then a else b).1):=by split <;> assumption
theorem Nh (p:Program) (rest:Rest) (gs:Array Goroutine) (i:Nat) (g:Goroutine) (cases:Array CommCase) (blocking:Bool) (shape:CommShape) (w:World):Cp w.drawn ((communicate p rest gs i g cases blocking shape w).1):=by
 unfold communicate
 simp only
 refine JZ trivial (JZ (JZ ?_ (Nat.le_refl _)) ?_)
 ·split
  ·rename_i hh
   unfold waitingAt at hh
   split at hh
   ·split at hh
    ·cases hh; exact Nat.le_refl _
    ·cases hh
   ·cases hh; exact Nat.le_refl _
  ·trivial
 ·split
  ·trivial
  ·rename_i k c way w' hh
   have h:=CQ hh
   split
   ·split
    ·rename_i h2; exact Nat.le_trans h (E4 h2)
    ·trivial
   ·exact h
   ·exact h
   ·split
    ·exact h
    ·split
     ·rename_i h2; have h3:=CQ h2; exact Nat.le_trans h h3
     ·trivial
   ·exact h
   ·exact h
   ·trivial
theorem NF (p:Program) (gs:Array Goroutine) (rest:Rest) (w:World):Cp w.drawn (look p gs rest w):=by
 unfold look
 split
 ·simp only
  refine NA trivial ?_
  split
  ·trivial
  ·split
   ·rename_i hh; have h3:=CQ hh; exact h3
   ·trivial
   ·trivial
 ·trivial
theorem Pd (w:World) (c:Nat):(drain w c).2.drawn=w.drawn:=by
 unfold drain; split <;> rfl
theorem Lg (m:Machine) (k:Nat) (t:Timer) (a b:Nat):(retime m k t a b).2.world.drawn=m.world.drawn:=by
 unfold retime
 cases t.chan with
 | none=>rfl
 | some c=>exact Pd _ _
theorem OO (m:Machine) (op:TimerOp) {v:Value} {m':Machine} (h:timerOp m op = .ok (v,m')):m'.world.drawn=m.world.drawn:=by
 unfold timerOp at h
 split at h
 ·split at h
  ·cases h; rfl
  ·split at h
   ·split at h
    ·cases h
    ·cases h; rfl
   ·cases h
 ·unfold timerOp.named at h
  split at h
  ·simp only [Except.ok.injEq] at h
   have:=congrArg (fun q=>q.2.world.drawn) h
   simp only at this
   rw [← this]; exact Lg _ _ _ _ _
  ·cases h
 ·split at h
  ·rename_i m2 hm
   unfold timerOp.named at h
   split at h
   ·simp only [Except.ok.injEq] at h
    have:=congrArg (fun q=>q.2.world.drawn) h
    simp only at this
    rw [← this,Lg]
    unfold timerOp.opened at hm
    split at hm
    ·split at hm
     ·cases hm; rfl
     ·cases hm
    ·cases hm; rfl
   ·cases h
  ·cases h
 ·cases h; rfl
theorem Ng (p:Program) (m:Machine) (k:Nat):Cp m.world.drawn (serve p m k):=by
 unfold serve
 split
 ·trivial
 ·exact Nat.le_refl _
 ·split
  all_goals (simp only; split)
  all_goals first | trivial | exact Nat.le_refl _
theorem QD (p:Program) (m:Machine) (i:Nat) (listen:Bool):Cp m.world.drawn ((runT p m i listen).1):=by
 unfold runT
 simp only
 have h:=Nq p (i == 0) (m.gs.swapAt! i { (default:Goroutine) with status:=.finished }).1 m.world listen
 generalize stepG p (i == 0) (m.gs.swapAt! i { (default:Goroutine) with status:=.finished }).1 m.world listen=s at h ⊢
 cases s with
 | ended o w es=>trivial
 | comm g cases blocking shape w es=>exact H6 (Nh _ _ _ _ _ _ _ _ _) h
 | go g w es=>exact h
 | spawn g child w es=>exact h
 | count g w es=>exact NA trivial h
 | alone g on w es=>exact h
 | collect g w es=>exact H6 (NF _ _ _ _) h
 | watch g w es=>exact h
 | newcoro g c d w es=>exact h
 | coroswitch g c exit w es=>
  simp only
  split
  ·exact h
  ·exact h
  ·trivial
 | timer g op w es=>
  simp only
  split
  ·rename_i hh
   have:=OO _ _ hh
   exact Nat.le_trans h (Nat.le_of_eq this.symm)
  ·exact h
  ·trivial
  ·trivial
def GK (n:Nat):Move→Prop
 | .goroutine m _=>n≤m.world.drawn
 | .machine s _=>Cp n s
theorem Jh (p:Program) (m:Machine):GK m.world.drawn (askOn p m):=by
 have hp : ∀ (rs:List Nat) (m1:Machine),m.world.drawn≤m1.world.drawn→GK m.world.drawn (match (choose (.sched rs.length)).run p m1.world with
   | .halt _ w => Move.machine (.ended (.stuck "sched" "") w)
   | .ok k world=>
    if rs.length≤1 then .goroutine { m1 with world } (rs.getD k 0) else
    match (choose (.extern "sched.slice" 65536)).run p world with
    | .halt _ w => .machine (.ended (.stuck "sched.slice" "") w)
    | .ok n world=>.goroutine { m1 with world,rest:={ m1.rest with slice:=if n=0 then none else some (rs.getD k 0,n) } } (rs.getD k 0)):=by
  intro rs m1 h1
  split
  ·trivial
  ·rename_i hh
   have h2:=Nat.le_trans h1 (CQ hh)
   split
   ·exact h2
   ·split
    ·trivial
    ·rename_i h3; exact Nat.le_trans h2 (CQ h3)
 unfold askOn
 simp only
 split
 ·trivial
 ·rename_i k world hh
  have h:=CQ hh
  split
  ·have h2:=Ng p { m with world } ((due m.rest.timers m.world.os.mono).getD k 0)
   generalize serve p { m with world } ((due m.rest.timers m.world.os.mono).getD k 0)=s at h2
   cases s with
   | next m'=>exact Nat.le_trans h h2
   | ended _ _=>trivial
  ·split
   ·split
    ·exact h
    ·split
     ·exact h
     ·split <;> trivial
   ·split
    ·exact hp _ { m with world } h
    ·split
     ·trivial
     ·rename_i h2; exact hp _ { m with world:=_ } (Nat.le_trans h (CQ h2))
     ·rename_i h2; have h3:=CQ h2; exact Nat.le_trans h h3
     ·rename_i t _ _ k' w' h2; have h3:=CQ h2; exact hp _ (Machine.advanceTo { m with world:=w' } (t-(k'+1))) (Nat.le_trans h h3)
theorem MH {s:Move} {a b:Nat} (h:GK a s) (hb:b≤a):GK b s:=by
 cases s with
 | goroutine m i=>exact Nat.le_trans hb h
 | machine s o=>exact H6 (s:=s) h hb
theorem Le (p:Program) (m:Machine):GK m.world.drawn (ask p m):=by
 unfold ask
 split
 ·split
  ·trivial
  ·rename_i w1 hh
   have h:=CQ hh
   have h2:=NF p m.gs m.rest w1
   split
   ·rename_i h3
    rw [h3] at h2
    exact MH (Jh p _) (Nat.le_trans h h2)
   ·exact H6 h2 h
  ·rename_i hh
   exact MH (Jh p _) (CQ hh)
 ·exact Jh p m
theorem PT (p:Program) (m:Machine):GK m.world.drawn (move p m):=by
 unfold move
 split
 ·split
  ·exact Nat.le_refl _
  ·trivial
 ·split
  ·split
   ·exact Nat.le_refl _
   ·exact Le p { m with rest:=_ }
  ·exact Le p m
theorem Nr (p:Program) (m:Machine):Cp m.world.drawn (step p m):=by
 unfold step stepT
 have h:=PT p m
 split
 ·rename_i hh; rw [hh] at h
  exact H6 (QD p _ _ _) h
 ·rename_i hh; rw [hh] at h
  exact h
theorem Nz (p:Program) : ∀ (n:Nat) (m m':Machine),runN p n m = .next m'→m.world.drawn≤m'.world.drawn:=by
 intro n
 induction n with
 | zero=>intro m m' h; cases h; exact Nat.le_refl _
 | succ n ih=>
  intro m m' h
  unfold runN at h
  have h1:=Nr p m
  split at h
  ·rename_i hh; rw [hh] at h1
   exact Nat.le_trans h1 (ih _ _ h)
  ·rename_i e he
   rw [h] at he
   exact absurd rfl (he _)
theorem M0 {p:Program} {m m':Machine} (h:Steps p m m'):m.world.drawn≤m'.world.drawn:=by
 obtain ⟨n,hn⟩:=h
 exact Nz p n m m' hn
theorem Q0 {P:Program} {f:FuncId} {args:Array Value} {w:World} {R:Ending→World→Prop} (h:Calls P f args w R):Calls P f args w fun e w'=>R e w'∧(e ≠ .outgrown→w.drawn≤w'.drawn):=by
 intro cs
 obtain ⟨e,w',fr,hR,hc,hf,hl⟩:=h cs
 refine ⟨e,w',fr,⟨hR,fun he=>?_⟩,hc,hf,hl⟩
 cases e with
 | outgrown=>exact absurd rfl he
 | returned v=>exact M0 (show Steps P _ _ from hc)
 | panicked c=>exact M0 (show Steps P _ _ from hc)
end Go.Proofs.Ytelkfhdgmbahgaa.Al

set_option maxHeartbeats 1000000
namespace Go.Proofs.Ytelkfhdgmbahgaa.Al
open Go.Shelf Go.RowKit Go.Lib Go.Sort
def JP {τ:Type} (cmp:τ→τ→Option Int) (xs l:List τ):Prop:=
 xs.length<4611686018427387904 ∧ ∃ cf:τ→τ→Int,(∀ a b,cmp a b=some (cf a b))∧SWO (ltOf cf)∧(∀ a∈xs,∀ b∈xs,ltOf cf a b=false→ltOf cf b a=false→a=b) ∧
  l.Perm xs∧l.Pairwise fun a b=>ltOf cf b a=false
open Classical in
noncomputable def D6 {τ:Type} (cmp:τ→τ→Option Int) (xs:List τ):Option (List τ):=if h : ∃ l,JP cmp xs l then some h.choose else none
theorem Hx {τ:Type} {cmp:τ→τ→Option Int} {xs l:List τ} (h:D6 cmp xs=some l):JP cmp xs l:=by
 unfold D6 at h
 split at h
 ·rename_i hh; cases h; exact hh.choose_spec
 ·cases h
theorem KA {τ:Type} {lt:τ→τ→Bool} (hO:SWO lt) : ∀ (l l':List τ),l.Perm l'→(∀ a∈l,∀ b∈l,lt a b=false→lt b a=false→a=b)→l.Pairwise (fun a b=>lt b a=false)→l'.Pairwise (fun a b=>lt b a=false)→l=l':=by
 intro l
 induction l with
 | nil=>intro l' hp _ _ _; exact (List.nil_perm.1 hp).symm
 | cons a r ih=>
  intro l' hp ha h1 h2
  cases l' with
  | nil=>exact absurd hp (by simp)
  | cons b s=>
   rw [List.pairwise_cons] at h1 h2
   have hab:a=b:=by
    have hbm:b∈a :: r:=hp.symm.subset (List.mem_cons_self ..)
    have ham:a∈b :: s:=hp.subset (List.mem_cons_self ..)
    rcases List.mem_cons.1 hbm with e | hb
    ·exact e.symm
    ·rcases List.mem_cons.1 ham with e | ha'
     ·exact e
     ·exact ha a (List.mem_cons_self ..) b (List.mem_cons_of_mem _ hb) (h2.1 a ha') (h1.1 b hb)
   subst hab
   rw [ih s (List.Perm.cons_inv hp) (fun x hx y hy=>ha x (List.mem_cons_of_mem _ hx) y (List.mem_cons_of_mem _ hy)) h1.2 h2.2]
theorem Ry {τ:Type} {cmp:τ→τ→Option Int} {xs l:List τ} (h:JP cmp xs l):D6 cmp xs=some l:=by
 have hh : ∃ l,JP cmp xs l:=⟨l,h⟩
 unfold D6
 rw [dif_pos hh]
 obtain ⟨h0,cf,h1,h2,h3,h4,h5⟩:=h
 obtain ⟨_,cf',k1,_,_,k4,k5⟩:=hh.choose_spec
 have hc:cf'=cf:=by
  funext a b
  have:=(k1 a b).symm.trans (h1 a b)
  simpa using this
 subst hc
 rw [KA h2 _ l (k4.trans h4.symm) (fun a ha b hb=>h3 a (k4.subset ha) b (k4.subset hb)) k5 h5]
theorem Pe {τ:Type} {cmp:τ→τ→Option Int} {xs l l':List τ} {cf:τ→τ→Int} (h:D6 cmp xs=some l) (hc : ∀ a b,cmp a b=some (cf a b)) (hp:l'.Perm xs) (hs:l'.Pairwise fun a b=>ltOf cf b a=false):l'=l:=by
 obtain ⟨h0,cf',h1,h2,h3,h4,h5⟩:=Hx h
 have hc':cf'=cf:=by
  funext a b
  have:=(h1 a b).symm.trans (hc a b)
  simpa using this
 subst hc'
 exact KA h2 _ _ (hp.trans h4.symm) (fun a ha b hb=>h3 a (hp.subset ha) b (hp.subset hb)) hs h5
theorem Af.exact {P:Program} {g:FuncId} {args:List AV} {r:AV} (h:Af P g args r) {z:Cx} (hok:z.ok) {W:World} (hs:z.w.heap.size≤W.heap.size) (ho:W.os=z.w.os) (ht:W.tape=z.w.tape) (hp:W.output=z.w.output)
  (hb : ∀ b,z.S b→W.heap[b]? = z.w.heap[b]?) {vs:Array Value} (ha : ∀ y:Cx,y.w=W→y.S=z.S→Db y args vs.toList) :
  Calls P g vs W fun e w'=>∃ u,e = .returned u∧(∃ y:Cx,AS y r u) ∧ ∃ q os',w'=grow (W.drewN q) os':=by
 have t1:DY { z with F:=fun _=>False,H:=fun _=>none }:=hok.tabs.same rfl fun _ h=>h
 have t2:DY { w:=W,S:=z.S,F:=fun _=>False,H:=fun _=>none,β:=z.β,K:=z.K,n:=z.n }:=
  t1.le ⟨hs,ho,ht,hp,(fun b hbb=>hbb.elim (hb b) False.elim),(fun _ h=>h),rfl,Nat.le_refl _,(fun _ _ h=>by cases h),(fun _ _ h=>by cases h)⟩
 have t3:DY { w:=W,S:=z.S,F:=fun b=>b<W.heap.size ∧ ¬ z.S b,H:=fun _=>none,β:=fun _=>none,K:=fun _ _=>none,n:=0 }:=t2.same rfl fun _ h=>h
 have hx:({ w:=W,S:=z.S,F:=fun b=>b<W.heap.size ∧ ¬ z.S b,H:=fun _=>none,β:=fun _=>none,K:=fun _ _=>none,n:=0 } : Cx).ok:=
  ⟨(fun b hS=>Nat.lt_of_lt_of_le (hok.S_lt b hS) hs),(fun b h=>h.1),(fun b h1 h2=>h2.2 h1),(fun _ _ h=>by cases h),(fun _ _ _ _ h=>by cases h),(fun _ _ _ _ _ _ _ h=>by cases h),(fun _ _ _ _ _ h=>by cases h),t3⟩
 refine (Q0 (h.2.2 _ vs hx rfl (ha _ rfl rfl))).mono fun e w' ⟨⟨u,y,he,hw,hle,hyok,hrep⟩,hd⟩=>?_
 subst hw
 have hd':=hd (by rw [he]; intro h; cases h)
 refine ⟨u,he,⟨y,hrep⟩,y.w.drawn-W.drawn,y.w.heap.extract W.heap.size y.w.heap.size,?_⟩
 have hsz:W.heap.size≤y.w.heap.size:=hle.size
 have hheap:y.w.heap=W.heap++y.w.heap.extract W.heap.size y.w.heap.size:=by
  apply Array.ext_getElem?
  intro i
  by_cases hi:i<W.heap.size
  ·rw [Array.getElem?_append_left hi]
   refine hle.blk i ?_
   by_cases hS:z.S i
   ·exact .inl hS
   ·exact .inr ⟨hi,hS⟩
  ·rw [Array.getElem?_append_right (by omega),Array.getElem?_extract]
   by_cases h2:i<y.w.heap.size
   ·rw [if_pos (by omega)]; congr 1; omega
   ·rw [if_neg (by omega),Array.getElem?_eq_none (by omega)]
 have h1:=hle.os; have h2:=hle.tape; have h3:=hle.output
 simp only at h1 h2 h3
 generalize y.w=w' at *
 obtain ⟨heap,tape,drawn,os,output⟩:=w'
 simp only at *
 subst h1 h2 h3
 unfold grow World.drewN
 simp only
 rw [← hheap]
 congr 1
 omega
structure El {τ:Type} (x:Cx) (row:τ→List RV) (k:Nat) where
 t:τ
 us:List Value
 hl:us.length=k
 hrl:(row t).length=k
 hr : ∀ (i:Nat) (d:RV) (u:Value),(row t)[i]? = some d→us[i]? = some u→Av x.w x.S d u
theorem El.one {τ:Type} {x:Cx} {row:τ→List RV} {k:Nat} (a:El x row k) : ∀ v∈a.us,v.oneCell'=true:=by
 intro v hv
 obtain ⟨i,hi,rfl⟩:=List.mem_iff_getElem.1 hv
 have h1:i<(row a.t).length:=by rw [a.hrl,← a.hl]; exact hi
 exact (a.hr i _ _ (List.getElem?_eq_getElem h1) (List.getElem?_eq_getElem hi)).one
theorem El.agg {τ:Type} {x y:Cx} {row:τ→List RV} {k:Nat} (a:El x row k) (hb : ∀ b,x.S b→y.w.heap[b]? = x.w.heap[b]?) (hS:y.S=x.S):AS y (.agg ((row a.t).map .r)) (.agg a.us.toArray):=by
 refine .agg (by simp [a.hl,a.hrl]) fun i c u hc hu=>?_
 rw [List.getElem?_map,Option.map_eq_some_iff] at hc
 obtain ⟨d,hd,rfl⟩:=hc
 exact .r ((a.hr i d u hd (by simpa using hu)).mono hb fun b h=>by rw [hS]; exact h)
theorem RB {τ:Type} {x:Cx} {row:τ→List RV} {k:Nat} {cf:τ→τ→Int} (h:SWO (ltOf cf)):SWO (ltOf fun a b:El x row k=>cf a.t b.t):=
 ⟨fun a=>h.irrefl a.t,fun a b c=>h.trans a.t b.t c.t,fun a b c=>h.ntrans a.t b.t c.t⟩
theorem L5 {α:Type} [Inhabited α] (enc:α→List Value) (k:Nat) (w:World) (blk n:Nat) (d:Array α) (os:Array Obj) :
  w.heap.size≤(sortWorldK enc k w blk 0 n d os).heap.size∧(sortWorldK enc k w blk 0 n d os).os=w.os∧(sortWorldK enc k w blk 0 n d os).tape=w.tape∧(sortWorldK enc k w blk 0 n d os).output=w.output ∧
   (∀ b,b<w.heap.size→b≠blk→(sortWorldK enc k w blk 0 n d os).heap[b]? = w.heap[b]?) ∧
   ∀ cur e fz,w.heap[blk]? = some (.cells cur e fz)→(sortWorldK enc k w blk 0 n d os).heap[blk]? = some (.cells (putCells id 0 (flatK enc k d) cur) e fz):=by
 refine ⟨?_,rfl,rfl,rfl,fun b hb hne=>?_,fun cur e fz h=>?_⟩
 ·simp [sortWorldK,grow,putRowK,putRow,mapBlock,Sort.ahead]
 ·simp only [sortWorldK,grow,putRowK,putRow,mapBlock,Sort.ahead]
  rw [Array.getElem?_append_left (by simpa using hb),Array.getElem?_modify,if_neg (fun e=>hne e.symm)]
 ·have hb:blk<w.heap.size:=(Array.getElem?_eq_some_iff.1 h).1
  simp only [sortWorldK,grow,putRowK,putRow,mapBlock,Sort.ahead]
  rw [Array.getElem?_append_left (by simpa using hb),Array.getElem?_modify,if_pos rfl,h]
  rfl
section
variable {P:Program} {ρ:Ren} {τ:Type} {row:τ→List RV} {k:Nat} {cmp:τ→τ→Option Int} {g:FuncId}
theorem Ol {x:Cx} (hok:x.ok) {n:Int} (a b:El x row k) (hc:Af P g [.agg ((row a.t).map .r),.agg ((row b.t).map .r)] (.r (.int .i64 n))) {W:World} (hs:x.w.heap.size≤W.heap.size) (ho:W.os=x.w.os) (ht:W.tape=x.w.tape) (hp:W.output=x.w.output)
  (hb : ∀ b,x.S b→W.heap[b]? = x.w.heap[b]?):Calls P g #[.agg a.us.toArray,.agg b.us.toArray] W fun e w'=>e = .returned (.int .i64 n) ∧ ∃ q os',w'=grow (W.drewN q) os':=by
 have ha : ∀ y:Cx,y.w=W→y.S=x.S→Db y [.agg ((row a.t).map .r),.agg ((row b.t).map .r)] (#[.agg a.us.toArray,.agg b.us.toArray]:Array Value).toList:=by
  intro y hw hS
  have hby : ∀ c,x.S c→y.w.heap[c]? = x.w.heap[c]?:=fun c hc=>by rw [hw]; exact hb c hc
  have h1:=a.agg hby hS
  have h2:=b.agg hby hS
  refine ⟨rfl,fun i v u hv hu=>?_⟩
  rcases i with _ | _ | i
  ·have e1:AV.agg ((row a.t).map .r)=v:=by simpa using hv
   have e2:Value.agg a.us.toArray=u:=by simpa using hu
   rw [← e1,← e2]; exact h1
  ·have e1:AV.agg ((row b.t).map .r)=v:=by simpa using hv
   have e2:Value.agg b.us.toArray=u:=by simpa using hu
   rw [← e1,← e2]; exact h2
  ·simp at hv
 refine (hc.exact hok hs ho ht hp hb ha).mono ?_
 rintro e w' ⟨u,he,⟨y,hy⟩,q,os',hw⟩
 refine ⟨?_,q,os',hw⟩
 rw [he]
 generalize hd:RV.int .i64 n=d at hy
 cases hy with
 | r hy=>subst hd; cases hy; rfl
theorem N4 {x:Cx} (hok:x.ok) {cf:τ→τ→Int} [Inhabited (El x row k)] (hc : ∀ a b,Af P g [.agg ((row a).map .r),.agg ((row b).map .r)] (.r (.int .i64 (cf a b)))) {blk:Nat} (hblk : ¬ x.S blk) (size:Nat) :
  CmpLays P g #[] (fun a:El x row k=>a.us) k (fun a b=>cf a.t b.t) blk 0 size x.w:=by
 intro m os dk _ a b
 obtain ⟨f1,f2,f3,f4,f5,_⟩:=L5 (fun a:El x row k=>a.us) k x.w blk m dk os
 have hb : ∀ c,x.S c→(sortWorldK (fun a:El x row k=>a.us) k x.w blk 0 m dk os).heap[c]? = x.w.heap[c]?:=fun c hS=>f5 c (hok.S_lt c hS) fun e=>hblk (by rw [← e]; exact hS)
 generalize sortWorldK (fun a:El x row k=>a.us) k x.w blk 0 m dk os=W at *
 rw [Array.append_empty]
 exact Ol hok a b (hc a.t b.t) f1 f2 f3 f4 hb
theorem L4 {α:Type} [Inhabited α] (enc:α→List Value) (d:Array α) {i c:Nat} (hk : ∀ x,(enc x).length=k) (hi:i<d.size) (hc:c<k):(flatK enc k d)[i * k+c]? = (enc d[i])[c]?:=by
 have lt:i * k+c<d.size * k:=by
  have:=Nat.mul_le_mul_right k (show i+1≤d.size from hi); rw [Nat.add_mul,Nat.one_mul] at this; omega
 have h:=get_flatK enc k d _ lt
 have e1:(i * k+c) / k=i:=(blk_iff k i _ (by omega)).1 ⟨by omega,by omega⟩
 have e2:(i * k+c) % k=c:=by rw [Nat.mod_eq_sub_div_mul,e1]; omega
 rw [e1,e2] at h
 have h1:i * k+c<(flatK enc k d).size:=by rw [size_flatK]; exact lt
 have h2:c<(enc d[i]).length:=by rw [hk]; exact hc
 rw [Array.getElem?_eq_getElem h1,List.getElem?_eq_getElem h2]
 rw [getElem!_pos (flatK enc k d) _ h1,getElem!_pos d i hi,getElem!_pos (enc d[i]) c h2] at h
 rw [h]
theorem NT (L:SlLaysF0.n6 P ρ) (aE : ∀ w,(isAgg (ρ.t 24)).run P w = .ok true w) (zE : ∀ w,(Go.sizeOf (ρ.t 24)).run P w = .ok k w) (eg : ∀ args w,(callFunc g args).run P w = .ok (.enter g args) w)
  {x:Cx} (hok:x.ok) (hc : ∀ a b r,cmp a b=some r→Af P g [.agg ((row a).map .r),.agg ((row b).map .r)] (.r (.int .i64 r))) {xs l:List τ} (hs:D6 cmp xs=some l) {e:TypeId} {blk cap:Nat} {us:List Value}
  (hlt:blk<x.w.heap.size) (hblk : ¬ x.S blk) (hk:0<k) (hrow : ∀ a∈xs,(row a).length=k) (hown:x.w.ownsRow 0 e k (.slice (some ⟨blk,0,none⟩) xs.length cap) xs.length us)
  (hcell : ∀ i a c d,xs[i]? = some a→(row a)[c]? = some d → ∃ u,us[i * k+c]? = some u∧Av x.w x.S d u) :
  Calls P (ρ.f 6) #[.slice (some ⟨blk,0,none⟩) xs.length cap,.func (.func g) #[] #[]] x.w fun e' w'=>e' = .returned (.tuple #[]) ∧
   x.w.heap.size≤w'.heap.size∧w'.os=x.w.os∧w'.tape=x.w.tape∧w'.output=x.w.output∧(∀ b,b<x.w.heap.size→b≠blk→w'.heap[b]? = x.w.heap[b]?) ∧
   ∃ us',w'.ownsRow 0 e k (.slice (some ⟨blk,0,none⟩) xs.length cap) xs.length us' ∧ ∀ i a c d,l[i]? = some a→(row a)[c]? = some d → ∃ u,us'[i * k+c]? = some u∧Av x.w x.S d u:=by
 obtain ⟨h0,cf,h1,h2,h3,h4,h5⟩:=Hx hs
 obtain ⟨hul,hown'⟩:=hown
 obtain ⟨hv,_⟩ | ⟨gg,cap',cur,hv,_,hh,hcap,hm,hcur,htake⟩:=hown'
 ·cases hv
 simp only [Value.slice.injEq,Option.some.injEq,Addr.mk.injEq,and_true] at hv
 obtain ⟨rfl,_,rfl⟩:=hv
 rcases Nat.eq_zero_or_pos xs.length with hz | hpos
 ·
  have hx:xs=[]:=List.length_eq_zero_iff.1 hz
  subst hx
  have hl:l=[]:=List.perm_nil.1 h4
  subst hl
  refine (AnyF.slices_SortFunc_none L (some ⟨blk,0,none⟩) cap (.func (.func g) #[] #[]) x.w).mono fun e' w' ⟨he,hw⟩=>?_
  subst hw
  exact ⟨he,Nat.le_refl _,rfl,rfl,rfl,fun _ _ _=>rfl,us,⟨hul,.inr ⟨blk,cap,cur,rfl,Nat.zero_le _,hh,hcap,hm,hcur,htake⟩⟩,fun i a c d h=>by simp at h⟩
 ·have hfit : ∀ i,i<xs.length→i * k+k≤us.length:=fun i hi=>by
   rw [hul]
   have:=Nat.mul_le_mul_right k (show i+1≤xs.length from hi); rwa [Nat.add_mul,Nat.one_mul] at this
  have p1 : ∀ i:Fin xs.length,((us.drop (i.val * k)).take k).length=k:=fun i=>by
   have:=hfit i.val i.isLt
   rw [List.length_take,List.length_drop]; omega
  have p3 : ∀ (i:Fin xs.length) (c:Nat) (dd:RV) (u:Value),(row xs[i])[c]? = some dd→((us.drop (i.val * k)).take k)[c]? = some u→Av x.w x.S dd u:=fun i c dd u hd hu=>by
   obtain ⟨u',e1,e2⟩:=hcell i.val xs[i] c dd (List.getElem?_eq_getElem i.isLt) hd
   rw [List.getElem?_take,List.getElem?_drop] at hu
   split at hu
   ·rw [e1] at hu; cases hu; exact e2
   ·cases hu
  let d:Array (El x row k):=Array.ofFn (n:=xs.length) fun i=>(⟨xs[i],(us.drop (i.val * k)).take k,p1 i,hrow _ (List.getElem_mem i.isLt),p3 i⟩:El x row k)
  have hds:d.size=xs.length:=by simp [d]
  have hdt : ∀ i (hi:i<d.size),d[i].t=xs[i]'(by rw [← hds]; exact hi):=fun i hi=>by simp [d]
  have hdu : ∀ i (hi:i<d.size),d[i].us=(us.drop (i * k)).take k:=fun i hi=>by simp [d]
  haveI:Inhabited (El x row k):=⟨d[0]'(by rw [hds]; exact hpos)⟩
  have hek : ∀ a:El x row k,a.us.length=k:=fun a=>a.hl
  have hH:HoldsK (fun a:El x row k=>a.us) k x.w blk 0 d:=by
   intro j hj
   rw [size_flatK,hds] at hj
   have e1:j / k<xs.length:=(Nat.div_lt_iff_lt_mul hk).2 hj
   have e2:j % k<k:=Nat.mod_lt _ hk
   have e3:j=j / k * k+j % k:=by rw [Nat.mul_comm]; exact (Nat.div_add_mod j k).symm
   have hg:(flatK (fun a:El x row k=>a.us) k d)[j]? = us[j]?:=by
    rw [e3,L4 (k:=k) (fun a:El x row k=>a.us) d hek (by rw [hds]; exact e1) e2]
    rw [hdu,List.getElem?_take,if_pos e2,List.getElem?_drop]
   have hj2:j<us.length:=by rw [hul]; exact hj
   have hj3:j<(flatK (fun a:El x row k=>a.us) k d).size:=by rw [size_flatK,hds]; exact hj
   have hval:(flatK (fun a:El x row k=>a.us) k d)[j]! = us[j]:=by
    rw [getElem!_pos _ j hj3]
    rw [Array.getElem?_eq_getElem hj3,List.getElem?_eq_getElem hj2] at hg
    exact Option.some.inj hg
   refine ⟨?_,?_⟩
   ·rw [hval]
    unfold World.cell?
    simp only [hh,Nat.zero_add,Option.isSome_none,Bool.false_eq_true,if_false]
    have:us[j]? = cur[j]?:=by
     rw [← htake,List.getElem?_take,if_pos hj,Array.getElem?_toList]
    rw [← this,List.getElem?_eq_getElem hj2]; rfl
   ·unfold World.frozen?
    simp [hh]
  have hcon:=AnyQ.slices_SortFunc L k aE zE (fun a:El x row k=>a.us) hek (fun a=>a.one) (fun a b=>cf a.t b.t) (RB h2) g #[] blk 0 cap d x.w eg (N4 hok (fun a b=>hc a b _ (h1 a b)) hblk d.size) hH hlt (by rw [hds]; exact h0)
  rw [hds] at hcon
  refine hcon.mono fun e' w' ⟨he,d',n,os,hp,hso,hw⟩=>?_
  subst hw
  obtain ⟨f1,f2,f3,f4,f5,f6⟩:=L5 (fun a:El x row k=>a.us) k x.w blk n d' os
  obtain ⟨hps,_,hpp⟩:=hp
  have hdl:d'.toList.map (·.t)=l:=by
   have e1:d'.extract 0 xs.length=d':=by rw [← hds,← hps]; exact Array.extract_size
   have e2:d.extract 0 xs.length=d:=by rw [← hds]; exact Array.extract_size
   rw [e1,e2] at hpp
   refine Pe hs h1 ((hpp.map _).trans ?_) ?_
   ·have:d.toList.map (·.t)=xs:=by
     apply List.ext_getElem?
     intro i
     rw [List.getElem?_map,Array.getElem?_toList]
     by_cases hi:i<d.size
     ·rw [Array.getElem?_eq_getElem hi,Option.map_some,hdt i hi,List.getElem?_eq_getElem]
     ·rw [Array.getElem?_eq_none (by omega),List.getElem?_eq_none (by omega)]; rfl
    rw [this]
   ·rw [List.pairwise_map,List.pairwise_iff_getElem]
    intro i j hi hj hij
    have hj':j<d'.size:=by simpa using hj
    have hi':i<d'.size:=by simpa using hi
    have:=hso i j (Nat.zero_le _) hij (by rw [← hds,← hps]; exact hj')
    rw [getElem!_pos d' i hi',getElem!_pos d' j hj'] at this
    simpa [ltOf] using this
  have hll:l.length=xs.length:=h4.length_eq
  have hcs:xs.length * k≤cur.size:=by rw [hcur]; exact Nat.mul_le_mul_right k hcap
  have hflat:(putCells id 0 (flatK (fun a:El x row k=>a.us) k d') cur).toList.take (xs.length * k)=(flatK (fun a:El x row k=>a.us) k d').toList:=by
   have hsf:(flatK (fun a:El x row k=>a.us) k d').size=xs.length * k:=by rw [size_flatK,hps,hds]
   apply List.ext_getElem?
   intro j
   rw [List.getElem?_take,Array.getElem?_toList,Array.getElem?_toList]
   split
   ·rename_i hj
    unfold putCells
    have hjc:j<cur.size:=by omega
    have hjf:j<(flatK (fun a:El x row k=>a.us) k d').size:=by omega
    rw [Array.getElem?_mapIdx,Array.getElem?_eq_getElem hjc,Array.getElem?_eq_getElem hjf,Option.map_some,if_pos ⟨Nat.zero_le _,by omega⟩]
    simp only [Nat.sub_zero,id]
    rw [getElem!_pos _ j hjf]
   ·rename_i hj
    rw [Array.getElem?_eq_none (by omega)]
  refine ⟨he,f1,f2,f3,f4,f5,(flatK (fun a:El x row k=>a.us) k d').toList,⟨?_,.inr ⟨blk,cap,putCells id 0 (flatK (fun a:El x row k=>a.us) k d') cur,rfl,Nat.zero_le _,f6 cur e (0,0) hh,hcap,hm,?_,hflat⟩⟩,fun i a c dd hi hd=>?_⟩
  ·simp [hps,hds]
  ·rw [← hcur]; simp [putCells]
  ·rw [← hdl,List.getElem?_map,Array.getElem?_toList,Option.map_eq_some_iff] at hi
   obtain ⟨el,hel,rfl⟩:=hi
   obtain ⟨hi',rfl⟩:=Array.getElem?_eq_some_iff.1 hel
   have hcl:c<k:=by
    have:=(List.getElem?_eq_some_iff.1 hd).1
    rw [(d'[i]).hrl] at this; exact this
   have hcu:c<(d'[i]).us.length:=by rw [(d'[i]).hl]; exact hcl
   refine ⟨(d'[i]).us[c],?_,(d'[i]).hr c dd _ hd (List.getElem?_eq_getElem hcu)⟩
   rw [Array.getElem?_toList,L4 (k:=k) (fun a:El x row k=>a.us) d' hek hi' hcl,List.getElem?_eq_getElem hcu]
structure Kj (P:Program) (f:FuncId) (k:Nat):Prop where
 call:Fr P f
 ex : ∃ ρ:Ren,ρ.f 6=f∧SlLaysF0.n6 P ρ∧(∀ w,(isAgg (ρ.t 24)).run P w = .ok true w) ∧ ∀ w,(Go.sizeOf (ρ.t 24)).run P w = .ok k w
theorem MR {g:FuncId} (h:Fr P g) : ∀ args w,(callFunc g args).run P w = .ok (.enter g args) w:=by
 obtain ⟨fn,h1,h2,h3⟩:=h
 intro args w
 simp only [callFunc,Sem.run_bind,run_program,Result.andThen_ok,h1,h3,h2]
 rfl
theorem Sg {f:FuncId} (L:Kj P f k) (hk:0<k) (hrow : ∀ a,(row a).length=k) (hg:Fr P g) (hc : ∀ a b r,cmp a b=some r→Af P g [.agg ((row a).map .r),.agg ((row b).map .r)] (.r (.int .i64 r))) {gg:Nat} {e:TypeId} {xs l:List τ} (hs:D6 cmp xs=some l) :
  BJ P f 1 [.own 1000 gg,.fn g []] [(1000,some (.arr gg e k (xs.map row)))] (fun r h'=>∃ i:Nat→Nat,r = .tup []∧h'=[(1000,some (.arr gg e k (l.map row)))]):=by
 obtain ⟨hcal,ρ,hf,hL,aE,zE⟩:=L
 refine ⟨hcal,fun x vs hok hH ha=>?_⟩
 subst hf
 have hHid:x.H 1000=some (.arr gg e k (xs.map row)):=by rw [hH]; rfl
 obtain ⟨hgn,h0,hrl,hdr,us,hh,hown,hcell⟩:=hok.obj _ _ hHid
 obtain ⟨v1,v2,rfl⟩ : ∃ v1 v2,vs = #[v1,v2]:=by
  have:=ha.1
  match vs,this with
  | ⟨[a,b]⟩,_=>exact ⟨a,b,rfl⟩
 have a1:=ha.2 0 _ v1 rfl rfl
 have a2:=ha.2 1 _ v2 rfl rfl
 have e2:v2 = .func (.func g) #[] #[]:=by
  generalize hcs:([]:List AV)=cs at a2
  cases a2 with
  | fn hl _=>
   subst hcs
   have : ∀ us:Array Value,[].length (α:=AV)=us.size→us = #[]:=fun us h=>Array.eq_empty_of_size_eq_zero h.symm
   rw [this _ hl]
 have e1:BY (x.β 1000) (xs.map row).length v1:=by
  cases a1 with
  | own _ _ h=>exact h _ hHid rfl
 subst e2
 rw [List.length_map] at hh hown e1
 cases hβ:x.β 1000 with
 | none=>
  rw [hβ] at hh e1
  obtain ⟨hz,_⟩:=hh
  obtain ⟨_,rfl⟩:=e1
  have hx:xs=[]:=List.length_eq_zero_iff.1 hz
  subst hx
  have hl:l=[]:=List.perm_nil.1 (Hx hs).2.choose_spec.2.2.2.1
  subst hl
  refine (AnyF.slices_SortFunc_none hL none 0 (.func (.func g) #[] #[]) x.w).mono fun e' w' ⟨he,hw⟩=>?_
  subst hw
  exact ⟨_,x,.tup [],_,he,rfl,Cx.le.refl x,hok,hH,.tup rfl (fun i c u h=>by simp at h),rfl,rfl,fun _=>gg,rfl,rfl⟩
 | some p=>
  obtain ⟨blk,cap⟩:=p
  rw [hβ] at hh e1
  cases hh; cases e1
  have hob:=hok.own 1000 _ blk cap hHid hβ
  have hll:l.length=xs.length:=(Hx hs).2.choose_spec.2.2.2.1.length_eq
  refine (NT hL aE zE (MR hg) hok hc hs hob.1 hob.2.1 hk (fun a _=>hrow a) hown fun i a c d hi hd=>hcell i (row a) c d (by rw [List.getElem?_map,hi]; rfl) hd).mono fun e' w' ⟨he,f1,f2,f3,f4,f5,us',f6,f7⟩=>?_
  have hup:=CB hok 1000 (.arr gg e k (l.map row)) w' (some (blk,cap)) x.n f1 f2 f3 f4
   (fun b hb hno=>f5 b hb fun e=>hno _ cap hHid (by rw [e]; exact hβ))
   (fun b k' hb=>by cases hb; exact ⟨Nat.lt_of_lt_of_le hob.1 f1,.inr ⟨_,cap,hHid,hβ⟩⟩)
   (Nat.le_refl _) hgn (fun _=>⟨_,hHid,rfl,by simp [AY.shape,hll],hβ.symm⟩)
   (fun hle=>⟨hk,fun r hr=>by obtain ⟨a,_,rfl⟩:=List.mem_map.1 hr; exact hrow a,.slice (some ⟨blk,0,none⟩) xs.length cap,us',by rw [List.length_map,hll]; rfl,by rw [List.length_map,hll]; exact f6,
    fun i r c d hi hd=>by
     rw [List.getElem?_map,Option.map_eq_some_iff] at hi
     obtain ⟨a,hi,rfl⟩:=hi
     obtain ⟨u,k1,k2⟩:=f7 i a c d hi hd
     exact ⟨u,k1,k2.mono (fun b hb=>f5 b (hok.S_lt b hb) fun e=>hob.2.1 (by rw [← e]; exact hb)) fun _ h=>h⟩⟩)
  refine ⟨_,_,.tup [],[(1000,some (.arr gg e k (l.map row)))],he,rfl,hup.1,hup.2,?_,.tup rfl (fun i c u h=>by simp at h),rfl,rfl,fun _=>gg,rfl,rfl⟩
  simp only [hH]
  funext i
  by_cases hi:1000=i
  ·subst hi; rfl
  ·rw [if_neg hi,BM,if_neg hi,BM,if_neg hi]
noncomputable def FJ (cmp:τ→τ→Option Int) (m:List (Int × List τ)) (q:Int):Option (List (Int × List τ)):=
 match AN m q with
 | none=>some m
 | some xs=>(D6 cmp xs).map fun l=>Ai m q l
theorem Si {f:FuncId} (L:Kj P f k) (hk:0<k) (hrow : ∀ a,(row a).length=k) (hg:Fr P g) (hc : ∀ a b r,cmp a b=some r→Af P g [.agg ((row a).map .r),.agg ((row b).map .r)] (.r (.int .i64 r))) {gg ve:Nat} {e:TypeId} {m m':List (Int × List τ)} {q:Int} (hs:FJ cmp m q=some m') :
  BJ P f 1 [.fo 1000 gg ve q,.fn g []] [(1000,some (.mr gg ve e k none (AM (fun (l:List τ)=>l.map row) m)))] (fun r h'=>∃ i:Nat→Nat,r = .tup []∧h'=[(1000,some (.mr gg ve e k none (AM (fun (l:List τ)=>l.map row) m')))]):=by
 obtain ⟨hcal,ρ,hf,hL,aE,zE⟩:=L
 refine ⟨hcal,fun x vs hok hH ha=>?_⟩
 subst hf
 have hHid:x.H 1000=some (.mr gg ve e k none (AM (fun (l:List τ)=>l.map row) m)):=by rw [hH]; rfl
 obtain ⟨v1,v2,rfl⟩ : ∃ v1 v2,vs = #[v1,v2]:=by
  have:=ha.1
  match vs,this with
  | ⟨[a,b]⟩,_=>exact ⟨a,b,rfl⟩
 have a1:=ha.2 0 _ v1 rfl rfl
 have a2:=ha.2 1 _ v2 rfl rfl
 have e2:v2 = .func (.func g) #[] #[]:=by
  generalize hcs:([]:List AV)=cs at a2
  cases a2 with
  | fn hl _=>
   subst hcs
   have : ∀ us:Array Value,[].length (α:=AV)=us.size→us = #[]:=fun us h=>Array.eq_empty_of_size_eq_zero h.symm
   rw [this _ hl]
 subst e2
 rcases HN hok hHid a1 with ⟨_,rfl,hn⟩ | ⟨j,rs,blk,cap,us,hj,hg2,hjx,hR,rfl⟩
 ·rw [Fi,Option.map_eq_none_iff] at hn
  unfold FJ at hs
  rw [hn] at hs
  cases hs
  refine (AnyF.slices_SortFunc_none hL none 0 (.func (.func g) #[] #[]) x.w).mono fun e' w' ⟨he,hw⟩=>?_
  subst hw
  exact ⟨_,x,.tup [],_,he,rfl,Cx.le.refl x,hok,hH,.tup rfl (fun i c u h=>by simp at h),rfl,rfl,fun _=>gg,rfl,rfl⟩
 ·rw [Fi,Option.map_eq_some_iff] at hg2
  obtain ⟨xs,hxs,rfl⟩:=hg2
  unfold FJ at hs
  rw [hxs] at hs
  simp only [Option.map_eq_some_iff] at hs
  obtain ⟨l,hs,rfl⟩:=hs
  obtain ⟨r1,r2,r3,r4⟩:=hR
  rw [List.length_map] at r3
  have hext:=hok.ext 1000 _ j blk cap hHid r2
  obtain ⟨hgn,_⟩:=hok.obj _ _ hHid
  obtain ⟨h0,hv,b,es,h1,h2,h3,h4⟩:=FC hok hHid
  have hll:l.length=xs.length:=(Hx hs).2.choose_spec.2.2.2.1.length_eq
  have hbne:b≠blk:=fun e=>hext.2.2.2.1 1000 _ 1 hHid (by rw [h1,e])
  rw [List.length_map]
  refine (NT hL aE zE (MR hg) hok hc hs hext.1 hext.2.1 hk (fun a _=>hrow a) r3 fun i a c d hi hd=>r4 i (row a) c d (by rw [List.getElem?_map,hi]; rfl) hd).mono fun e' w' ⟨he,f1,f2,f3,f4,f5,us',f6,f7⟩=>?_
  have hkj:Ad m q=some j:=by
   have:=Jg (fun p:Int × List τ=>(p.1,p.2.map row)) (fun _=>rfl) m q
   rw [← this]; exact hj
  obtain ⟨xs',hx1,hx2,hx3⟩:=Bm hkj
  rw [hxs] at hx2; cases hx2
  have hlen:(Ai m q l).length=m.length:=by rw [hx3,List.length_set]
  have hget : ∀ i:Nat,(Ai m q l)[i]? = if i=j then some (q,l) else m[i]?:=fun i=>by
   rw [hx3,List.getElem?_set]
   by_cases hij:j=i
   ·subst hij
    have:j<m.length:=(List.getElem?_eq_some_iff.1 hx1).1
    simp [this]
   ·rw [if_neg hij,if_neg (fun e=>hij e.symm)]
  have hup:=F2 hok 1000 (.mr gg ve e k none (AM (fun (l:List τ)=>l.map row) (Ai m q l))) w' (some (b,1)) (x.K 1000) x.n f1 f2 f3 f4
   (fun b2 hb2 hno=>f5 b2 hb2 fun e=>hno _ hHid (.inr ⟨j,cap,by rw [e]; exact r2⟩))
   (fun b2 k2 hb2=>by cases hb2; exact ⟨Nat.lt_of_lt_of_le (hok.own 1000 _ b 1 hHid h1).1 f1,.inr ⟨_,hHid,.inl ⟨1,h1⟩⟩⟩)
   (fun j2 b2 k2 hb2=>by
    have hx:=hok.ext 1000 _ j2 b2 k2 hHid hb2
    exact ⟨⟨Nat.lt_of_lt_of_le hx.1 f1,.inr ⟨_,hHid,.inr ⟨j2,k2,hb2⟩⟩⟩,fun k3 hk3=>by cases hk3; exact hx.2.2.2.1 1000 _ 1 hHid h1,fun j3 k3 hk3=>(hx.2.2.2.2 1000 _ j3 k3 hHid hk3).2⟩)
   (Nat.le_refl _) hgn (fun _=>⟨_,hHid,rfl,rfl,h1.symm⟩)
   (fun _ _ _=>⟨_,hHid,rfl,rfl,rfl,by
    apply List.ext_getElem?
    intro i
    simp only [AY.kshape,AM,List.getElem?_map,hget]
    by_cases hij:i=j
    ·subst hij; rw [if_pos rfl,hx1]; simp [hll]
    ·rw [if_neg hij],rfl⟩)
   (fun hle=>by
    refine Bl.mr (id:=1000) (fun j2=>by simp) h0 hv ((f5 b (hok.own 1000 _ b 1 hHid h1).1 hbne).trans h2) (by rw [show (AM (fun (l:List τ)=>l.map row) (Ai m q l)).length=(AM (fun (l:List τ)=>l.map row) m).length by simp [AM,hlen]]; exact h3) fun j2 q2 rs2 hj2=>?_
    simp only [AM,List.getElem?_map,hget,Option.map_eq_some_iff] at hj2
    obtain ⟨p2,hp2,he2⟩:=hj2
    by_cases hij:j2=j
    ·subst hij
     rw [if_pos rfl] at hp2
     cases hp2
     simp only [Prod.mk.injEq] at he2
     obtain ⟨rfl,rfl⟩:=he2
     obtain ⟨bb,cap2,us2,⟨_,g2,_,_⟩,g5⟩:=h4 j2 q (xs.map row) (by simp [AM,List.getElem?_map,hx1])
     rw [r2] at g2; cases g2
     refine ⟨blk,cap,us',⟨fun r hr=>by obtain ⟨a,_,rfl⟩:=List.mem_map.1 hr; exact hrow a,by simpa using r2,by rw [List.length_map,hll]; exact f6,fun i r c d hi hd=>?_⟩,?_⟩
     ·rw [List.getElem?_map,Option.map_eq_some_iff] at hi
      obtain ⟨a,hi,rfl⟩:=hi
      obtain ⟨u,k1,k2⟩:=f7 i a c d hi hd
      exact ⟨u,k1,k2.mono (fun b hb=>f5 b (hok.S_lt b hb) fun e=>hext.2.1 (by rw [← e]; exact hb)) fun _ h=>h⟩
     ·rw [List.length_map] at g5 ⊢
      rw [hll]; exact g5
    ·rw [if_neg hij] at hp2
     obtain ⟨bb,cap2,us2,⟨g1,g2,g3,g4⟩,g5⟩:=h4 j2 q2 rs2 (by simp only [AM,List.getElem?_map,hp2,Option.map_some,he2])
     have hne:bb≠blk:=fun e=>hij (hok.ext 1000 _ j blk cap hHid r2 |>.2.2.2.2 1000 _ j2 cap2 hHid (by rw [← e]; exact g2)).2
     have hgx:=hok.ext 1000 _ j2 bb cap2 hHid g2
     refine ⟨bb,cap2,us2,⟨g1,by simpa using g2,?_,fun i r c d hi hd=>?_⟩,g5⟩
     ·obtain ⟨o1,o2⟩:=g3
      refine ⟨o1,?_⟩
      rcases o2 with o2 | ⟨g',c',cur,p1,p2,p3,p4⟩
      ·exact .inl o2
      ·simp only [Value.slice.injEq,Option.some.injEq,Addr.mk.injEq,and_true] at p1
       obtain ⟨rfl,_,rfl⟩:=p1
       exact .inr ⟨bb,cap2,cur,rfl,p2,(f5 bb hgx.1 hne).trans p3,p4⟩
     ·obtain ⟨u,k1,k2⟩:=g4 i r c d hi hd
      exact ⟨u,k1,k2.mono (fun b hb=>f5 b (hok.S_lt b hb) fun e=>hext.2.1 (by rw [← e]; exact hb)) fun _ h=>h⟩)
  refine ⟨_,_,.tup [],[(1000,some (.mr gg ve e k none (AM (fun (l:List τ)=>l.map row) (Ai m q l))))],he,rfl,hup.1,hup.2,?_,.tup rfl (fun i c u h=>by simp at h),rfl,rfl,fun _=>gg,rfl,rfl⟩
  simp only [hH]
  funext i
  by_cases hi:1000=i
  ·subst hi; rfl
  ·rw [if_neg hi,BM,if_neg hi,BM,if_neg hi]
end
end Go.Proofs.Ytelkfhdgmbahgaa.Al

namespace Go.Proofs.Ytelkfhdgmbahgaa.Al
section
variable {P:Program} {c:Bool} {o:Oper} {R:Aj} {h:AZ} {n:Nat}
end
section
variable {P:Program} {ops:Array Oper} {rest:List Oper} {s:St} {K:St→Prop} {o:Oper}
def Hp (R:Aj) (L:List Nat) (id n:Nat):List Operand→List AV→Prop
 | [],[]=>True
 | x :: xs,b :: bs=>(((Ev true R x (ren L b)∧b.canon L.length=true)∨(Ev true R x (.cst (.slice none 0 0))∧b = .r (.sl [])))∨(Ev true R x (.cst (.slice none 0 0))∧ren L b = .own id n∧b.canon L.length=true))∧Hp R L id n xs bs
 | _,_=>False
theorem Hp.get {R:Aj} {L:List Nat} {id n:Nat} {xs:List Operand} {bs:List AV} (hx:Hp R L id n xs bs) :
  xs.length=bs.length ∧ ∀ (i:Nat) (b:AV),bs[i]? = some b → ∃ x,xs[i]? = some x∧(((Ev true R x (ren L b)∧b.canon L.length=true)∨(Ev true R x (.cst (.slice none 0 0))∧b = .r (.sl [])))∨(Ev true R x (.cst (.slice none 0 0))∧ren L b = .own id n∧b.canon L.length=true)):=by
 induction xs generalizing bs with
 | nil=>cases bs with | nil=>exact ⟨rfl,by simp⟩ | cons _ _=>exact hx.elim
 | cons x l ih=>
  cases bs with
  | nil=>exact hx.elim
  | cons b m=>
   obtain ⟨h1,h2⟩:=ih hx.2
   refine ⟨by simp [h1],fun i c hi=>?_⟩
   cases i with
   | zero=>simp at hi; subst hi; exact ⟨x,rfl,hx.1⟩
   | succ i=>simpa using h2 i c (by simpa using hi)
theorem RF {f:FuncId} {fo:Operand} {xs:Array Operand} {ats:Array TypeId} {caps bs:List AV} {L:List Nat} {hc:AZ} {Post:AV→AZ→Prop} {R:Aj} {h:AZ} {a:Act} {z:Cx} (id:Nat) (e:TypeId) (sz:Nat) (hz0:Nat.blt 0 sz=true)
  (ho:o.op = .call { callee:=.value fo,args:=xs,argTypes:=ats }) (hfo:Ev true R fo (.fn f (CX L caps))) (hcc:DK L.length caps=true) (hx:Hp R L id z.n xs.toList bs) (hsh:Dk ((id,some (.arr z.n e sz [])) :: h) L hc) (hnd:L.Nodup)
  (hcon:BJ P f L.length (bs++caps) hc Post) (hok:z.ok) (hH:z.H=hget h) (he:BE z R a) (K:Act→World→Prop) (Q:Exit→Act→World→Prop)
  (hK : ∀ (u:Value) (y:Cx) (r:AV) (h':AZ),z.le y→y.ok→y.H=hget (Cd L h' 1000 L++((id,some (.arr z.n e sz [])) :: h))→AS y (ren L r) u→Post r h'→K (a.put o.dst u) y.w):o.wp P a z.w K Q:=by
 have hup:=CB hok id (.arr z.n e sz []) z.w none (z.n+1) (Nat.le_refl _) rfl rfl rfl (fun _ _ _=>rfl) (fun b k hb=>by cases hb) (by omega) (by simp [AY.gen]) (fun hg=>absurd hg (by simp [AY.gen]))
  (fun hle=>⟨Bd hz0,by simp,.slice none 0 0,[],⟨rfl,rfl⟩,World.ownsRow_nil _ _ _ _,by simp⟩)
 generalize hy1:({ z with H:=fun i=>if id=i then some (.arr z.n e sz []) else z.H i,β:=fun i=>if id=i then none else z.β i,K:=fun i=>if id=i then fun _=>none else z.K i,n:=z.n+1 } : Cx)=y1 at hup
 have hy1H:y1.H=hget ((id,some (.arr z.n e sz [])) :: h):=by rw [← hy1]; simp only [hH]; exact BV _ _ _
 have hid:y1.H id=some (.arr z.n e sz []):=by rw [hy1H,BM,if_pos rfl]
 have hβid:y1.β id=none:=by rw [← hy1]; simp
 have hy1n:y1.n=z.n+1:=by rw [← hy1]
 have hy1w:y1.w=z.w:=by rw [← hy1]
 have he1:=he.mono hup.1
 obtain ⟨hcall,hcon⟩:=hcon
 obtain ⟨hlen,hget'⟩:=hx.get
 have hv:=hfo.rep he1 rfl
 generalize hfv:a.eval fo=v at hv
 cases hv with
 | @fn _ _ us hl hall=>
  have hrun:=GZ hcall ho hfv z.w
  rw [DS] at hl
  have hin : ∀ {b:AV} {u:Value},AS y1 (ren L b) u→b.canon L.length=true→AS (y1.view L hc) b u:=fun {b u} h1 h2=>Jz (x:=y1) (y:=y1.view L hc) (L:=L) (k:=L.length) rfl (fun _ h=>h) (Nat.le_refl _) (KS hy1H hsh) h1 b rfl h2
  have hargs:Db (y1.view L hc) (bs++caps) (xs.map a.eval++us).toList:=by
   refine ⟨by simp [hl]; simpa using hlen,fun i b u h1 h2=>?_⟩
   have h2':((xs.toList.map a.eval)++us.toList)[i]? = some u:=by simpa using h2
   by_cases hi:i<bs.length
   ·rw [List.getElem?_append_left hi] at h1
    obtain ⟨x,k1,k2⟩:=hget' i b h1
    rw [List.getElem?_append_left (by simp at hlen ⊢; omega),List.getElem?_map,k1] at h2'
    simp only [Option.map_some,Option.some.injEq] at h2'
    subst h2'
    rcases k2 with (⟨k2,k3⟩ | ⟨k2,rfl⟩) | ⟨k2,k3,k4⟩
    ·exact hin (k2.rep he1 rfl) k3
    ·have:=k2.rep he1 rfl
     generalize a.eval x=v at this ⊢
     cases this; exact .r .snil
    ·refine hin ?_ k4
     rw [k3]
     have:=k2.rep he1 rfl
     generalize a.eval x=v at this ⊢
     cases this
     refine .own (by rw [hy1n]; omega) rfl fun o' ho' _=>?_
     rw [hid] at ho'; cases ho'
     rw [hβid]; exact ⟨rfl,rfl⟩
   ·rw [List.getElem?_append_right (by omega)] at h1
    rw [List.getElem?_append_right (by simp at hlen ⊢; omega)] at h2'
    have hxl:(xs.toList.map a.eval).length=bs.length:=by simpa using hlen
    rw [hxl] at h2'
    exact hin (hall _ (ren L b) u (by rw [Dz,h1]; rfl) (by simpa using h2')) (D7 hcc h1)
  unfold Oper.wp
  rw [hrun,← hy1w]
  refine (hcon (y1.view L hc) _ (Mq hup.2 hy1H hsh hnd) rfl hargs).mono fun e' w' ⟨u,y,r,h',he',hyw,hle,hyok,hyH,hyr,hrc,hhc,hpost⟩=>?_
  subst he'
  subst hyw
  obtain ⟨k1,k2⟩:=Mi hup.2 hy1H hsh hnd hle hyok hyH hhc
  exact hK u (y1.back y L h' _) r h' (hup.1.trans k1) k2 rfl (Jy (x:=y) (y:=y1.back y L h' _) (L:=L) (k:=L.length) rfl (fun _ h=>h) (Nat.le_refl _) (Ku hnd hyH) hyr hrc) hpost
theorem Sj {d:Nat} {f:FuncId} {fo:Operand} {xs:Array Operand} {ats:Array TypeId} {caps bs:List AV} (id:Nat) (e:TypeId) (sz:Nat) (hz0:Nat.blt 0 sz=true) (L:List Nat) {hc:AZ} {F:(Nat→Nat)→AV} {G:(Nat→Nat)→AZ} (hg:o.guard=none) (hd:o.dst=some d) (hN:Nat.blt d s.N=true)
  (ho:o.op = .call { callee:=.value fo,args:=xs,argTypes:=ats }) (hfo:Ev true s.e fo (.fn f (CX L caps))) (hcc:DK L.length caps=true) (hx:Hp s.e L id s.n xs.toList bs) (hsh:Dk ((id,some (.arr s.n e sz [])) :: s.h) L hc) (hnd:L.Nodup)
  (hcon:BJ P f L.length (bs++caps) hc (fun r h'=>∃ i,r=F i∧h'=G i))
  (hr : ∀ i n',AB P ops rest { e:=(d,ren L (F i)) :: s.e,h:=Cd L (G i) 1000 L++((id,some (.arr s.n e sz [])) :: s.h),n:=n',N:=s.N } K):AB P ops (o :: rest) s K:=by
 intro c0 a w ⟨_,hdef,hsz,y,hyw,hle,hok,hH,hn,he⟩ Q hQ
 subst hyw
 rw [← hn] at hx hsh hr
 refine wpList_plain hg fun K' hK'=>?_
 refine RF id e sz hz0 ho hfo hcc hx hsh hnd hcon hok hH he K' Q fun u z r h' hyz hzok hzH hzv hpost=>?_
 refine hK' _ _ ?_
 have hN':d<a.tmps.size:=by rw [hsz]; exact Bd hN
 obtain ⟨i,rfl,rfl⟩:=hpost
 rw [hd]
 exact hr i z.n c0 (a.put (some d) u) z.w ⟨_,hdef,by simpa [Act.put] using hsz,z,rfl,hle.trans hyz,hzok,hzH,rfl,(he.mono hyz).put hN' hzv⟩ Q hQ
end
theorem Nw {α:Type} {l l':List α} {z:Int} (h:FM l 0 z=some l'):l'=l.take z.toNat:=by
 obtain ⟨_,_,_,rfl⟩:=M5 h
 simp
section
variable {P:Program} {c:Bool} {o:Oper} {R:Aj} {h:AZ} {n:Nat}
theorem PS {α:Type} {f:α→List RV} {t e e':TypeId} {sz sz':Nat} {x y:Operand} {id g:Nat} {l l':List α} {zh:Int} (ho:o.op = .slice t x none (some y) none) (ht:CT P t e sz) (hx:Ev c R x (.own id g))
  (hh:hget h id=some (.arr g e' sz' (l.map f))) (hhi : ∃ k,Ev c R y (.r (.int k zh))) (hs:c=true→FM l 0 zh=some l'):AC P c o R h (.pre id g zh.toNat):=by
 intro hc z w hok hH he
 obtain ⟨ht1,ii,ht2,ht3⟩:=ht
 obtain ⟨h1,h2,h3,rfl⟩:=M5 (hs hc)
 have hHid:z.H id=some (.arr g e' sz' (l.map f)):=by rw [hH]; exact hh
 obtain ⟨h0,hrow,us,hd,hown,hcl⟩:=GI hok hHid (hx.rep he hc)
 have hgn:=(hok.obj _ _ hHid).1
 obtain ⟨k,hk⟩:=hhi
 have hy:=Dq (hk.rep he hc)
 have hbnd : ∀ (len cap:Nat),zh≤cap → ∀ W,(Instr.sliceBounds true len cap none (some (w.eval y)) none).run P W = .ok (0,zh.toNat,cap) W:=by
  intro len cap hcap W
  have hH:(Instr.sliceBound (w.eval y) cap .sliceAcap).run P W = .ok zh.toNat W:=by rw [hy,SM h2 hcap]
  simp [Instr.sliceBounds,hH]
 rw [List.length_map] at hd
 generalize hxv:w.eval x=xv at hd hown
 unfold BY at hd
 split at hd
 ·rename_i heq
  obtain ⟨hz,rfl⟩:=hd
  have hm0:zh.toNat=0:=by omega
  refine ⟨.slice none 0 0,fun w2 hag=>?_,.pre hgn rfl fun o' ho' _=>?_⟩
  ·unfold execOp
   rw [ho]
   have hb2:=hbnd 0 0 (by omega) w2
   rw [hm0] at hb2
   simp [hxv,Instr.sliceAt,Instr.slice,run_underlying ht1,C1 ht2,hb2]
  ·rw [hHid] at ho'; cases ho'
   rw [heq,hm0]
   exact ⟨Nat.zero_le _,rfl,rfl⟩
 ·rename_i b cap heq
  subst hd
  have hnc:l.length≤cap:=by
   rcases hown.2 with ⟨h1,_⟩ | ⟨g',cap',cur,h1,_,_,h2,h3,_⟩
   ·cases h1
   ·simp only [Value.slice.injEq] at h1; rw [h1.2.2]; simpa using h2
  refine ⟨.slice (some ⟨b,0,none⟩) zh.toNat cap,fun w2 hag=>?_,.pre hgn rfl fun o' ho' _=>?_⟩
  ·unfold execOp
   rw [ho]
   simp [hxv,Instr.sliceAt,Instr.slice,run_underlying ht1,C1 ht2,ht3,hbnd _ cap (by omega),Addr.add_lit]
  ·rw [hHid] at ho'; cases ho'
   rw [heq]
   exact ⟨by simp [AY.shape]; omega,rfl⟩
end
open Go.Shelf Go.Proofs
def N2:Go.Shelf.Ren:=⟨fun | 6=>45 | 15=>60 | 14=>65 | 28=>78 | 29=>79 | 20=>80 | 21=>81 | 22=>82 | 23=>83 | 24=>84 | 25=>85 | 26=>86 | 27=>87 | 46=>93 | 47=>89 | 48=>90 | 49=>94 | 50=>95 | 57=>97 | n=>n,fun | 22=>24 | 24=>55 | 25=>88 | 3=>3 | 39=>94 | 0=>0 | 53=>110 | 55=>112 | 4=>4 | 46=>103 | 45=>102 | 50=>107 | 5=>5 | 9=>9 | 66=>118 | 70=>122 | 76=>126 | 77=>127 | n=>n,fun | n=>n⟩
theorem RO:Go.Proofs.SlLaysF0.n6 Try.prog N2:={
 mixed:=by kernel_rfl
 f6:=⟨Try.f45.name,by decide,Try.func45.trans (congrArg some (by kernel_rfl))⟩
 f14:=⟨Try.f65.name,by decide,Try.func65.trans (congrArg some (by kernel_rfl))⟩
 f15:=Try.func60.trans (congrArg some (by kernel_rfl))
 f20:=⟨Try.f80.name,by decide,Try.func80.trans (congrArg some (by kernel_rfl))⟩
 f21:=⟨Try.f81.name,by decide,Try.func81.trans (congrArg some (by kernel_rfl))⟩
 f22:=⟨Try.f82.name,by decide,Try.func82.trans (congrArg some (by kernel_rfl))⟩
 f23:=⟨Try.f83.name,by decide,Try.func83.trans (congrArg some (by kernel_rfl))⟩
 f24:=⟨Try.f84.name,by decide,Try.func84.trans (congrArg some (by kernel_rfl))⟩
 f25:=⟨Try.f85.name,by decide,Try.func85.trans (congrArg some (by kernel_rfl))⟩
 f26:=⟨Try.f86.name,by decide,Try.func86.trans (congrArg some (by kernel_rfl))⟩
 f27:=⟨Try.f87.name,by decide,Try.func87.trans (congrArg some (by kernel_rfl))⟩
 f28:=Try.func78.trans (congrArg some (by kernel_rfl))
 f29:=Try.func79.trans (congrArg some (by kernel_rfl))
 f46:=⟨Try.f93.name,by decide,Try.func93.trans (congrArg some (by kernel_rfl))⟩
 f47:=Try.func89.trans (congrArg some (by kernel_rfl))
 f48:=Try.func90.trans (congrArg some (by kernel_rfl))
 f49:=⟨Try.f94.name,by decide,Try.func94.trans (congrArg some (by kernel_rfl))⟩
 f50:=⟨Try.f95.name,by decide,Try.func95.trans (congrArg some (by kernel_rfl))⟩
 f57:=⟨Try.f97.name,by decide,Try.func97.trans (congrArg some (by kernel_rfl))⟩
 t0:=Try.underlying0
 a0:=Try.isAgg0
 z0:=Try.sizeOf0
 v0:=Try.zeroValue0
 t3:=Try.underlying3
 a3:=Try.isAgg3
 z3:=Try.sizeOf3
 v3:=Try.zeroValue3
 t4:=Try.underlying4
 a4:=Try.isAgg4
 z4:=Try.sizeOf4
 v4:=Try.zeroValue4
 t5:=Try.underlying5
 a5:=Try.isAgg5
 z5:=Try.sizeOf5
 v5:=Try.zeroValue5
 t9:=Try.underlying9
 a9:=Try.isAgg9
 z9:=Try.sizeOf9
 v9:=Try.zeroValue9
 t22:=Try.underlying24
 a22:=Try.isAgg24
 z22:=Try.sizeOf24
 v22:=Try.zeroValue24
 t25:=Try.underlying88
 a25:=Try.isAgg88
 z25:=Try.sizeOf88
 v25:=Try.zeroValue88
 t39:=Try.underlying94
 a39:=Try.isAgg94
 z39:=Try.sizeOf94
 v39:=Try.zeroValue94
 t45:=Try.underlying102
 a45:=Try.isAgg102
 z45:=Try.sizeOf102
 v45:=Try.zeroValue102
 t46:=Try.underlying103
 a46:=Try.isAgg103
 z46:=Try.sizeOf103
 v46:=Try.zeroValue103
 t50:=Try.underlying107
 a50:=Try.isAgg107
 z50:=Try.sizeOf107
 v50:=Try.zeroValue107
 t53:=Try.underlying110
 a53:=Try.isAgg110
 z53:=Try.sizeOf110
 v53:=Try.zeroValue110
 t55:=Try.underlying112
 a55:=Try.isAgg112
 z55:=Try.sizeOf112
 v55:=Try.zeroValue112
 t66:=Try.underlying118
 a66:=Try.isAgg118
 z66:=Try.sizeOf118
 v66:=Try.zeroValue118
 t70:=Try.underlying122
 a70:=Try.isAgg122
 z70:=Try.sizeOf122
 v70:=Try.zeroValue122
 t76:=Try.underlying126
 a76:=Try.isAgg126
 z76:=Try.sizeOf126
 v76:=Try.zeroValue126
 t77:=Try.underlying127
 a77:=Try.isAgg127
 z77:=Try.sizeOf127
 v77:=Try.zeroValue127 }
theorem Ml:Kj Try.prog 45 4:=⟨⟨Try.f45,Try.func45,rfl,rfl⟩,_,rfl,RO,Try.isAgg55,Try.sizeOf55⟩
end Go.Proofs.Ytelkfhdgmbahgaa.Al

namespace Go.Proofs.Ytelkfhdgmbahgaa.Al
open Go.ChangeShapes Go.WideShapes Go.Deep Go.WideElems Go.RowKit
structure KI (H:Type) where
 B:DataW H→Nat
 one : ∀ d,1≤B d
 str : ∀ s:List UInt8,s.length+1≤B (.lit (.string s))
 sl : ∀ l r,(l.map B).sum+1≤B (.slice l r)
 agg : ∀ l,(l.map B).sum+1≤B (.agg l)
section
variable {H:Type} {enc:TypeId × Value→H} {P:Program} {W:World} (K:KI H)
def CF (enc:TypeId × Value→H) (P:Program) (W:World) (t:TypeId) {α:Type} (f:α→List RV) (ok:α→Prop) (μ:α→Nat):Prop:=
 ∀ (fuel:Nat) (cs:List Value) (x:DataW H × List MemPlace),DataW.trod enc P W 0 (fun _=>true) true fuel t cs=some x → ∃ a,ok a∧Hr W cs (f a)∧μ a≤K.B x.1
theorem CF.int {t:TypeId} {k:IntKind} (ht:P.underlying t=some (.int k)):CF K enc P W t (fun n:Int=>[.int k n]) (fun n=>(Lit.int k n).wf=true) (fun _=>1):=by
 intro fuel cs x h
 obtain ⟨n,rfl,_,hw⟩:=DataW.trod_int ht h
 exact ⟨n,hw,.one (.int k n),K.one _⟩
theorem CF.str {t:TypeId} (ht:P.underlying t=some .string):CF K enc P W t (fun s:List UInt8=>[.str s]) (fun s=>s.length≤maxLen) (fun s=>s.length+1):=by
 intro fuel cs x h
 obtain ⟨s,rfl,rfl,hs⟩:=DataW.trod_string ht h
 exact ⟨s.data.toList,by simpa using hs,.one (.str s),K.str _⟩
theorem Pw {α β:Type} {l:List α} {m:List β} {f:α→Nat} {g:β→Nat} (hl:l.length=m.length) (h : ∀ (i:Nat) (a:α) (b:β),l[i]? = some a→m[i]? = some b→f a≤g b):(l.map f).sum≤(m.map g).sum:=by
 induction l generalizing m with
 | nil=>simp
 | cons a l ih=>
  cases m with
  | nil=>simp at hl
  | cons b m=>
   have h0:=h 0 a b rfl rfl
   have h1:=ih (m:=m) (by simpa using hl) (fun i a b h1 h2=>h (i+1) a b (by simpa using h1) (by simpa using h2))
   simp only [List.map_cons,List.sum_cons]
   omega
theorem CF.slice {t e:TypeId} {sz:Nat} {α:Type} {f:α→List RV} {ok:α→Prop} {μ:α→Nat} (ht:P.underlying t=some (.slice e)) (hc:P.cellsOf e=sz) (h0:0<sz) (h:CF K enc P W e f ok μ) (hf : ∀ a,(f a).length=sz) :
  CF K enc P W t (fun l:List α=>[.sl (l.map f)]) (fun l=>l.length≤maxLen ∧ ∀ a∈l,ok a) (fun l=>(l.map μ).sum+1):=by
 intro fuel cs x hx
 subst hc
 rcases open_slice ht hx with ⟨rfl,_⟩ | ⟨a,len,cap,m,n,D,Pl,rfl,_,hl,hm,hmm,rfl,hi⟩
 ·exact ⟨[],⟨Nat.zero_le _,fun _ h=>by cases h⟩,.one .snil,K.one _⟩
 simp only [if_true] at hmm
 have hread : ∀ i,i<len → ∃ b,ok b∧μ b≤K.B (D i) ∧ ∀ j d,(f b)[j]? = some d → ∃ u,W.cell? ((a.add (i * P.cellsOf e)).add j)=some u∧Av W (· < W.heap.size) d u:=by
  intro i hil
  obtain ⟨cs',h1,h2⟩:=hi i (by omega)
  obtain ⟨b,hb,hr,hμ⟩:=h n _ _ h2
  obtain ⟨_,h3,h4⟩:=World.cells?_some h1
  refine ⟨b,hb,hμ,fun j d hj=>?_⟩
  have hjl:j<(f b).length:=(List.getElem?_eq_some_iff.1 hj).1
  have hjc:j<cs'.length:=by rw [hr.1]; exact hjl
  refine ⟨cs'[j],?_,hr.2 j d _ hj (List.getElem?_eq_getElem hjc)⟩
  rw [h4 j (by rw [← h3]; exact hjc)]
  exact List.getElem?_eq_getElem hjc
 obtain ⟨l,hll,hq⟩:=Kt len hread
 have hok : ∀ b∈l,ok b:=fun b hb=>by
  obtain ⟨i,hi⟩:=List.mem_iff_getElem?.1 hb
  exact (hq i b hi).1
 have hμ:(l.map μ).sum+1≤K.B (.slice ((List.range len).map D) ((List.range (m-len)).map fun j=>D (len+j))):=by
  refine Nat.le_trans ?_ (K.sl _ _)
  have:=Pw (l:=l) (m:=(List.range len).map D) (f:=μ) (g:=K.B) (by simpa using hll) (fun i a b h1 h2=>by
   have hil:i<len:=by rw [← hll]; exact (List.getElem?_eq_some_iff.1 h1).1
   rw [List.getElem?_map,List.getElem?_range hil] at h2
   cases h2
   exact (hq i a h1).2.1)
  omega
 have hcells : ∀ i b,l[i]? = some b → ∀ j d,(f b)[j]? = some d → ∃ u,W.cell? ((a.add (i * P.cellsOf e)).add j)=some u∧Av W (· < W.heap.size) d u:=fun i b hb=>(hq i b hb).2.2
 refine ⟨l,⟨by rw [hll]; omega,hok⟩,.one ?_,hμ⟩
 subst hll
 by_cases hne:cap=0
 ·have:l=[]:=List.eq_nil_of_length_eq_zero (by omega)
  subst this; subst hne
  exact .sl0 a
 ·obtain ⟨cs',h1,_⟩:=hi 0 (by omega)
  obtain ⟨_,h3,h4⟩:=World.cells?_some h1
  have hc0 : ∃ u,W.cell? a=some u:=by
   have:=h4 0 h0
   rw [Nat.zero_mul,show (a.add 0).add 0=a from rfl] at this
   exact ⟨cs'[0]'(by omega),this.trans (List.getElem?_eq_getElem (by omega))⟩
  obtain ⟨u0,hu0⟩:=hc0
  obtain ⟨b,off,spot⟩:=a
  have hsp:spot=none:=World.cell?_spot hu0
  subst hsp
  have hblk:b<W.heap.size:=by
   unfold World.cell? at hu0
   rcases Nat.lt_or_ge b W.heap.size with h | h
   ·exact h
   ·rw [Array.getElem?_eq_none h] at hu0; cases hu0
  have hadd : ∀ i j,((⟨b,off,none⟩:Addr).add (i * P.cellsOf e)).add j=⟨b,off+i * P.cellsOf e+j,none⟩:=fun i j=>by rw [Addr.add_lit,Addr.add_lit]
  have hu : ∀ (i:Nat) (row:List RV) (c:Nat) (d:RV),(l.map f)[i]? = some row→row[c]? = some d → ∃ u,W.cell? ⟨b,off+i * P.cellsOf e+c,none⟩=some u∧Av W (· < W.heap.size) d u:=by
   intro i row c d h1 h2
   rw [List.getElem?_map,Option.map_eq_some_iff] at h1
   obtain ⟨z,h5,rfl⟩:=h1
   obtain ⟨u,h6,h7⟩:=hcells i z h5 c d h2
   rw [hadd] at h6
   exact ⟨u,h6,h7⟩
  have:=Av.sl (w:=W) (S:=(· < W.heap.size)) b off (l.map f) cap (P.cellsOf e) (fun i c=>(W.cell? ⟨b,off+i * P.cellsOf e+c,none⟩).getD undef) (fun _=>hblk) (by simpa using hl) hm
   (fun row hr=>by obtain ⟨z,_,rfl⟩:=List.mem_map.1 hr; exact hf z)
   (fun i row c d h1 h2=>by obtain ⟨u,h5,_⟩:=hu i row c d h1 h2; rw [h5]; rfl)
   (fun i row c d h1 h2=>by obtain ⟨u,h5,h6⟩:=hu i row c d h1 h2; rw [h5]; exact h6)
  rwa [List.length_map] at this
theorem Q8 {t:TypeId} {fs:Array Field} {n:Nat} {fuel:Nat} {cs:List Value} {x:DataW H × List MemPlace} (ht:P.underlying t=some (.struct fs)) (hC:P.cellsOf t=n)
  (h:DataW.trod enc P W 0 (fun _=>true) true fuel t cs=some x) :
  cs.length=n ∧ ∃ xs:List (DataW H × List MemPlace),x.1 = .agg (xs.map (·.1))∧xs.length=fs.size ∧
   ∀ (j:Nat) (f:Field),fs[j]? = some f → ∃ (y:DataW H × List MemPlace) (m:Nat),xs[j]? = some y∧DataW.trod enc P W 0 (fun _=>true) true m f.type ((cs.drop f.offset).take (P.cellsOf f.type))=some y:=by
 obtain ⟨ys,n',hn',rfl,hlen,hyl,hf⟩:=DataW.trod_struct ht h
 refine ⟨hlen.trans hC,ys,rfl,hyl,fun j f hj=>?_⟩
 have hjl:j<fs.size:=(Array.getElem?_eq_some_iff.1 hj).1
 have h1:=hf j f hj
 have h2:ys[j]? = some ys[j]:=List.getElem?_eq_getElem (by omega)
 exact ⟨ys[j],n',h2,h1.trans h2⟩
theorem Hr.part {cs:List Value} {off k jj:Nat} {row:List RV} {d:RV} {u:Value} (h:Hr W ((cs.drop off).take k) row) (hjj:Nat.blt jj k=true) (h1:row[jj]? = some d) (h2:cs[off+jj]? = some u):Av W (· < W.heap.size) d u:=by
 refine h.2 jj d u h1 ?_
 rw [List.getElem?_take,if_pos (Bd hjj),List.getElem?_drop]
 exact h2
theorem R2 {t:TypeId} {α:Type} {d0:α→RV} {ok:α→Prop} {μ:α→Nat} {v:Value} {d:DataW H} {p:List MemPlace} (hr:CF K enc P W t (fun a:α=>[d0 a]) ok μ) (hv:v.cells = #[v])
  (h:DataW.Trod enc P W 0 (fun _=>true) true t v d p) : ∃ a,ok a∧Av W (· < W.heap.size) (d0 a) v∧μ a≤K.B d:=by
 obtain ⟨fuel,hf⟩:=h
 obtain ⟨l,h1,h2,h3⟩:=hr fuel _ _ hf
 rw [hv] at h2
 exact ⟨l,h1,h2.2 0 _ _ rfl rfl,h3⟩
theorem Nu {t e:TypeId} {α:Type} {f:α→List RV} {ok:List α→Prop} {μ:List α→Nat} {v:Value} {d:DataW H} {p:List MemPlace} {r:Reach} {b0:Nat} (ht:P.underlying t=some (.slice e)) (hr:CF K enc P W t (fun l:List α=>[.sl (l.map f)]) ok μ)
  (hval:Value.okWide P W r b0 t v) (h:DataW.Trod enc P W 0 (fun _=>true) true t v d p) : ∃ l,ok l∧Av W (· < W.heap.size) (.sl (l.map f)) v∧μ l≤K.B d:=by
 obtain ⟨a,len,cap,rfl⟩:=okWide_slice ht hval
 exact R2 K hr rfl h
end
end Go.Proofs.Ytelkfhdgmbahgaa.Al

namespace Go.Proofs.Ytelkfhdgmbahgaa.Al
theorem O4 {α:Type} {l ys:List α} (hl:l.length=ys.length) (h : ∀ (j:Nat) (y:α),ys[j]? = some y→l[j]? = some y):l=ys:=by
 apply List.ext_getElem? 
 intro i
 rcases Nat.lt_or_ge i ys.length with hi | hi
 ·rw [h i _ (List.getElem?_eq_getElem hi),List.getElem?_eq_getElem hi]
 ·rw [List.getElem?_eq_none hi,List.getElem?_eq_none (by omega)]
end Go.Proofs.Ytelkfhdgmbahgaa.Al
