/- Lemmas. -/
import Derived.Test.YtfodmgaliclhfaaGreatDoorGPlain
import Derived.Outline
import Derived.RegionTactic
import Derived.StillTailTactics
namespace Go.Proofs.YtfodmgaliclhfaaGreatDoor
set_option linter.unusedVariables false
set_option linter.unusedSimpArgs false
set_option maxRecDepth 100000
set_option maxHeartbeats 2000000
open Go.RowKit Go.Proofs.Tryz Iq
structure PLk where
 ver:Nat
 held:Bool
 own:Nat
 deriving DecidableEq
def PLk.zero:PLk:=⟨0,false,0⟩
def PLk.ok (l:PLk):Bool:=decide (l.ver<4611686018427387904)&&(if l.held then decide (l.own<4) else l.own==0)
structure POp where
 kind:Nat
 at_:Nat
 old:Nat
 word:Nat
 was:PLk
 lock:PLk
 deriving DecidableEq
def POp.zero:POp:=⟨0,0,0,0,PLk.zero,PLk.zero⟩
def POp.at' (k a:Nat):POp:={POp.zero with kind:=k,at_:=a}
structure PAns where
 word:Nat
 lock:PLk
 done:Bool
 err:Nat
 deriving DecidableEq
def PAns.zero:PAns:=⟨0,PLk.zero,false,0⟩
structure PMm where
 words:List Nat
 locks:List PLk
 clock:Nat
 since:List Nat
 count:Int
def doM (m:PMm)(o:POp):PAns×PMm :=
 match o.kind with
 |1=>if 1≤o.at_∧o.at_<m.words.length then({PAns.zero with word:=m.words.getD o.at_ 0},m) else({PAns.zero with err:=2},m)
 |2=>if 1≤o.at_∧o.at_<m.words.length then(PAns.zero,{m with words:=m.words.set o.at_ o.word}) else({PAns.zero with err:=2},m)
 |3=>if o.at_<m.locks.length then({PAns.zero with lock:=m.locks.getD o.at_ PLk.zero},m) else({PAns.zero with err:=2},m)
 |4=>if o.at_<m.locks.length then
   if o.lock.ok then
    if m.locks.getD o.at_ PLk.zero=o.was then({PAns.zero with done:=true},{m with locks:=m.locks.set o.at_ o.lock}) else(PAns.zero,m)
   else({PAns.zero with err:=1},m)
  else({PAns.zero with err:=2},m)
 |5=>if o.at_<m.locks.length then
   if o.lock.ok then(PAns.zero,{m with locks:=m.locks.set o.at_ o.lock}) else({PAns.zero with err:=1},m)
  else({PAns.zero with err:=2},m)
 |6=>({PAns.zero with word:=m.clock},m)
 |7=>if o.word≤o.old then({PAns.zero with err:=1},m)
  else if 4611686018427387904≤o.word then({PAns.zero with err:=7},m)
  else if m.clock=o.old then({PAns.zero with done:=true},{m with clock:=o.word})
  else(PAns.zero,m)
 |8=>if o.at_<m.since.length then({PAns.zero with word:=m.since.getD o.at_ 0},m) else({PAns.zero with err:=2},m)
 |9=>if o.at_<m.since.length then(PAns.zero,{m with since:=m.since.set o.at_ o.word}) else({PAns.zero with err:=2},m)
 |_=>({PAns.zero with err:=1},m)
def doC (m:PMm)(o:POp):PAns×PMm :=
 let r:=doM m o
 (r.1,if r.1.err=0 then {r.2 with count:=wrap64 (r.2.count+1)} else r.2)
structure PPat where
 me:Nat
 spins:Int
 fin:Nat
 by_:Int
 err:Nat
def PPat.new (me spins:Nat):PPat:=⟨me,(min spins 4:Nat),0,-1,0⟩
def PPat.stop (p:PPat)(fin err:Nat)(b:Int):PPat:={p with fin:=fin,err:=err,by_:=b}
def PPat.waits (p:PPat)(l:PLk):Bool×PPat :=
 if p.me<l.own then(true,p) else(decide (0≤wrap64 (p.spins-1)),{p with spins:=wrap64 (p.spins-1)})
def PPat.hear (p:PPat)(a:PAns):PPat:=if p.fin=0∧a.err≠0 then p.stop 4 a.err (-1) else p
structure PFe where
 rule:PPat
 at_:Nat
 stripe:Nat
 stamp:Nat
 state:Nat
 lock:PLk
 word:Nat
def PFe.new (me at_ stripe spins stamp:Nat):PFe:=⟨PPat.new me spins,at_,stripe,stamp,0,PLk.zero,0⟩
def PFe.next (f:PFe):POp×Bool :=
 if f.rule.fin≠0 then(POp.zero,false) else if f.state=1 then(POp.at' 1 f.at_,true) else(POp.at' 3 f.stripe,true)
def PFe.found (f:PFe)(l:PLk):PFe :=
 let f:={f with state:=0}
 if l.held then
  let r:=f.rule.waits l
  if r.1 then {f with rule:=r.2} else {f with rule:=r.2.stop 5 0 l.own}
 else if f.stamp<l.ver then {f with rule:=f.rule.stop 6 0 (-1)}
 else {f with lock:=l,state:=1}
def PFe.tell (f:PFe)(a:PAns):PFe :=
 let r:=f.rule.hear a
 if r.fin≠0 then {f with rule:=r}
 else if f.state=1 then {f with word:=a.word,state:=2}
 else if f.state=2∧a.lock=f.lock then {f with rule:=f.rule.stop 2 0 (-1)}
 else f.found a.lock
structure PEx where
 rule:PPat
 seen:List (Nat×Nat)
 loaded:Bool
 at_:Nat
 stamp:Nat
def PEx.new (me spins:Nat)(seen:List (Nat×Nat)):PEx:=⟨PPat.new me spins,seen,false,0,0⟩
def PEx.ok (x:PEx):Prop:=x.rule.fin=0→x.loaded=true→x.at_<x.seen.length
def PEx.next (x:PEx):POp×Bool :=
 if x.rule.fin≠0 then(POp.zero,false) else if x.loaded then(POp.at' 3 (x.seen.getD x.at_ (0,0)).1,true) else(POp.at' 6 0,true)
def PEx.over (x:PEx):PEx:=if x.at_=x.seen.length then {x with rule:=x.rule.stop 2 0 (-1)} else x
def PEx.tell (x:PEx)(a:PAns):PEx :=
 let r:=x.rule.hear a
 if r.fin≠0 then {x with rule:=r}
 else if x.loaded=false then {x with loaded:=true,stamp:=a.word}.over
 else if a.lock.held then
  let r:=x.rule.waits a.lock
  if r.1 then {x with rule:=r.2} else {x with rule:=r.2.stop 5 0 a.lock.own}
 else if a.lock.ver≠(x.seen.getD x.at_ (0,0)).2 then {x with rule:=x.rule.stop 5 0 (-1)}
 else {x with at_:=x.at_+1}.over
structure PCo where
 rule:PPat
 me:Nat
 stamp:Nat
 seen:List (Nat×Nat)
 cells:List (Nat×Nat)
 stripes:List Nat
 was:List PLk
 state:Nat
 at_:Nat
 lock:PLk
 now:Nat
 writing:Bool
 fin:Nat
 by_:Int
 err:Nat
def PCo.more (c:PCo):PCo:={c with state:=if c.was.length=c.stripes.length then 2 else 0}
def PCo.next (c:PCo):POp×Bool :=
 if c.rule.fin≠0 then(POp.zero,false)
 else match c.state with
 |0=>(POp.at' 3 (c.stripes.getD c.was.length 0),true)
 |1=>({POp.at' 4 (c.stripes.getD c.was.length 0) with was:=c.lock,lock:=⟨c.lock.ver,true,c.me⟩},true)
 |2=>(POp.at' 6 0,true)
 |3=>({POp.at' 7 0 with old:=c.now,word:=c.now+1},true)
 |4=>(POp.at' 3 (c.seen.getD c.at_ (0,0)).1,true)
 |5=>({POp.at' 2 (c.cells.getD c.at_ (0,0)).1 with word:=(c.cells.getD c.at_ (0,0)).2},true)
 |6=>({POp.at' 5 (c.stripes.getD c.at_ 0) with lock:=⟨c.now+1,false,0⟩},true)
 |_=>({POp.at' 5 (c.stripes.getD c.at_ 0) with lock:=c.was.getD c.at_ PLk.zero},true)
def PCo.leave (c:PCo):PCo:=if c.at_=c.was.length then {c with rule:=c.rule.stop c.fin c.err c.by_} else c
def PCo.stop (c:PCo)(fin err:Nat)(b:Int):PCo:={c with fin:=fin,err:=err,by_:=b,at_:=0,state:=7}.leave
def PCo.give (c:PCo):PCo:=if c.at_=c.stripes.length then {c with rule:=c.rule.stop 2 0 (-1)} else c
def PCo.write (c:PCo):PCo:=if c.at_=c.cells.length then {c with at_:=0,state:=6}.give else c
def PCo.begin (c:PCo):PCo:={c with writing:=true,at_:=0,state:=5}.write
def PCo.heldBy (c:PCo)(l:PLk):PCo :=
 let r:=c.rule.waits l;let c:={c with rule:=r.2}
 if r.1 then c else c.stop 5 0 l.own
def PCo.take (c:PCo)(a:PAns):PCo :=
 if c.state=0∧a.lock.held then c.heldBy a.lock
 else if c.state=0 then {c with lock:=a.lock,state:=1}
 else if a.done then {c with was:=c.was++[c.lock]}.more
 else {c with state:=0}
def PCo.proveF:Nat→PCo→PCo
 |0,c=>c
 |n+1,c =>
  if c.at_<c.seen.length then
   match c.stripes.findIdx? (·==(c.seen.getD c.at_ (0,0)).1) with
   |none=>c
   |some i=>if(c.was.getD i PLk.zero).ver≠(c.seen.getD c.at_ (0,0)).2 then c.stop 5 0 (-1) else PCo.proveF n {c with at_:=c.at_+1}
  else c.begin
def PCo.prove (c:PCo):PCo:=PCo.proveF (c.seen.length+1) {c with state:=4}
def PCo.proved (c:PCo)(l:PLk):PCo :=
 if l.held then c.heldBy l
 else if l.ver≠(c.seen.getD c.at_ (0,0)).2 then c.stop 5 0 (-1)
 else {c with at_:=c.at_+1}.prove
def PCo.raise (c:PCo)(a:PAns):PCo :=
 if c.state=2∧4611686018427387903≤a.word then c.stop 4 7 (-1)
 else if c.state=2 then {c with now:=a.word,state:=3}
 else if a.done=false then {c with state:=2}
 else if c.now=c.stamp then c.begin
 else c.prove
def PCo.tell (c:PCo)(a:PAns):PCo :=
 let r:=c.rule.hear a
 if r.fin≠0 then {c with rule:=r}
 else match c.state with
 |0=>c.take a
 |1=>c.take a
 |2=>c.raise a
 |3=>c.raise a
 |4=>c.proved a.lock
 |5=>{c with at_:=c.at_+1}.write
 |6=>{c with at_:=c.at_+1}.give
 |7=>{c with at_:=c.at_+1}.leave
 |_=>c
def PCo.stampOf (c:PCo):Nat:=if c.writing then c.now+1 else 0
def PCo.isWriting (c:PCo):Bool:=c.writing&&c.rule.fin==0
def stripeOf (at_ n wide:Nat):Nat:=at_ / wide%n
def insUp (x:Nat):List Nat→List Nat
 | []=>[x]
 |y::l=>if x<y then x::y::l else if x=y then y::l else y::insUp x l
def stripesOf (l:List (Nat×Nat))(n wide:Nat):List Nat:=l.foldl (fun acc c=>insUp (stripeOf c.1 n wide) acc) []
def PCo.new (me spins stamp:Nat)(seen cells:List (Nat×Nat))(n wide:Nat):PCo :=
 PCo.more ⟨PPat.new me spins,me,stamp,seen,cells,stripesOf cells n wide,[],0,0,PLk.zero,0,false,0,0,0⟩
def u64V (n:Nat):Value:=.int .u64 n
def vU (l:List Nat):List Value:=l.map u64V
theorem Jf (l:List Nat):(vU l).length=l.length:=by simp[vU]
theorem Db {l:List Nat}{i:Nat}(h:i<l.length):(vU l)[i]?=some (.int .u64 ((l.getD i 0:Nat):Int)):=by
 simp[vU,u64V,h]
theorem GR (l:List Nat)(i v:Nat):(vU l).toArray.setIfInBounds i (.int .u64 v)=(vU (l.set i v)).toArray:=by
 simp[vU,u64V,List.map_set]
def heapH (b:Nat)(ws:List Nat):HP:=ex fun g:Nat=>bk b 168 #[.slice (some ⟨g,0,none⟩) ws.length ws.length]*bk g 22 (vU ws).toArray
theorem Nc (ω w:World)(F:HP)(b:Nat)(ws:List Nat)(h:Sat ω w (heapH b ws*F))(hn:ws.length≤1000)(at_:Nat)(ha:at_≤1000000):
  Calls prog 81 #[.pointer b,at_] w fun e w'=>e=.returned (.tuple #[υ (if 1≤at_∧at_<ws.length then ws.getD at_ 0 else 0:Nat),(if 1≤at_∧at_<ws.length then 0 else 2:Nat)])∧w=w':=by
 obtain⟨g,h⟩:=h.of_ex;have h:=h.assoc;have c0:=h.blk.cell 0;simp at c0;have c1:=(h.right.blk).cell at_;have hv:=@Db ws;generalize hws:ws.length=n at *
 have HN:=h_ hws;by_cases h1:1≤at_
 ·by_cases h2:at_<n
  ·rw[if_pos ⟨h1,h2⟩,if_pos ⟨h1,h2⟩];have c2:w.cell? (κ g at_)=some (.int .u64 ((ws.getD at_ 0:Nat):Int)):=by rw[c1];simpa using hv h2
   clear c1 hv;generalize ws.getD at_ 0=x at *
   go_enter func81,ntmps81;go_wp2;go_ret2;exact⟨rfl,rfl⟩
  ·rw[if_neg (by omega),if_neg (by omega)]
   go_enter func81,ntmps81;go_wp2;go_ret2;exact⟨rfl,rfl⟩
 ·rw[if_neg (by omega),if_neg (by omega)]
  go_enter func81,ntmps81;go_wp2;go_ret2;exact⟨rfl,rfl⟩
theorem Kc (ω w:World)(F:HP)(b:Nat)(ws:List Nat)(h:Sat ω w (heapH b ws*F))(hn:ws.length≤1000)(at_ v:Nat)(ha:at_≤1000000):
  Calls prog 82 #[.pointer b,at_,υ v] w (Rets ω F (.int .i64 ((if 1≤at_∧at_<ws.length then 0 else 2:Nat):Int)) (heapH b (if 1≤at_∧at_<ws.length then ws.set at_ v else ws))):=by
 have H0:=h_ h;obtain⟨g,h⟩:=h.of_ex;have h:=h.assoc;have H:=h_ h;have c0:=h.blk.cell 0;simp at c0;have c1:=(h.right.blk).cell at_;have f1:=(h.right.blk).frozen at_;have hv:=@Db ws;have HQ:Hid (at_<ws.length→Sat ω (w.setCell (κ g at_) (υ v)) (heapH b (ws.set at_ v)*F)):=h_ (fun h2=>by
  have h3:=(h.swap.put at_ (υ v) (GR ws at_ v)).swap.assoc';refine Sat.to_ex g ?_;rw[show(ws.set at_ v).length=ws.length by simp]
  exact h3)
 generalize hws:ws.length=n at *
 have HN:=h_ hws;by_cases h1:1≤at_
 ·by_cases h2:at_<n
  ·rw[if_pos ⟨h1,h2⟩,if_pos ⟨h1,h2⟩];have c2:w.cell? (κ g at_)=some (.int .u64 ((ws.getD at_ 0:Nat):Int)):=by rw[c1];simpa using hv h2
   generalize ws.getD at_ 0=x at *
   go_enter func82,ntmps82;go_wp2;go_ret;exact⟨rfl,HQ.o h2⟩
  ·rw[if_neg (by omega),if_neg (by omega)]
   go_enter func82,ntmps82;go_wp2;go_ret;exact⟨rfl,H0.o⟩
 ·rw[if_neg (by omega),if_neg (by omega)]
  go_enter func82,ntmps82;go_wp2;go_ret;exact⟨rfl,H0.o⟩
section
variable (ω w : World) (F : HP)
def lkV (l:PLk):List Value:=[.int .u64 l.ver,.bool l.held,.int .i64 l.own]
def lkA (l:PLk):Value:=.agg #[υ l.ver,.bool l.held,l.own]
def vL (l:List PLk):List Value:=l.flatMap lkV
theorem CL {α β:Type}(f:α→List β)(m:Nat)(hf:∀x,(f x).length=m)(d:α):∀(l:List α) (i j:Nat),i<l.length→j<m→(l.flatMap f)[i*m+j]?=(f (l.getD i d))[j]?:=by
 intro l;induction l with
 |nil=>intro i j h;simp at h
 |cons x l ih =>
  intro i j h hj;rw[List.flatMap_cons];cases i with
  |zero =>
   rw[List.getElem?_append_left (by rw[hf];omega)]
   simp
  |succ i =>
   rw[List.getElem?_append_right (by rw[hf,Nat.succ_mul];omega),hf,show(i+1)*m+j-m=i*m+j by rw[Nat.succ_mul];omega]
   rw[ih i j (by simpa using h) hj]
   simp
theorem TV (x:PLk):∀(ls:List PLk) (i:Nat),(((vL ls).set (i*3) (.int .u64 x.ver)).set (i*3+1) (.bool x.held)).set (i*3+2) (.int .i64 x.own)=vL (ls.set i x):=by
 intro ls;induction ls with
 |nil=>intro i;simp[vL]
 |cons y l ih =>
  intro i;cases i with
  |zero=>simp[vL,lkV]
  |succ i =>
   have:=ih i
   simp only[vL,lkV,List.flatMap_cons,List.cons_append,List.nil_append,List.set_cons_succ,Nat.succ_mul] at this ⊢;rw[←this]
theorem OZ (x:PLk)(ls:List PLk)(i:Nat):(((vL ls).toArray.setIfInBounds (i*3) (.int .u64 x.ver)).setIfInBounds (i*3+1) (.bool x.held)).setIfInBounds (i*3+2) (.int .i64 x.own)=(vL (ls.set i x)).toArray:=by
 rw[←TV];simp
def tabH (b:Nat)(ls:List PLk)(wide:Nat):HP:=ex fun g:Nat=>bk b 172 #[.slice (some ⟨g,0,none⟩) ls.length ls.length,wide]*bk g 93 (vL ls).toArray
def ownsB (o:Int):Bool:=decide (0≤o∧o<4)
def isB (v:Int)(h:Bool)(o:Int):Bool:=decide (v<4611686018427387904)&&(if h then ownsB o else decide (o=0))
theorem Tx (l:PLk):isB (l.ver:Int) l.held (l.own:Int)=l.ok:=by
 unfold isB PLk.ok ownsB;have e1:decide ((l.ver:Int)<4611686018427387904)=decide (l.ver<4611686018427387904):=decide_eq_decide.2 (by omega)
 rw[e1];refine congrArg (fun b=>decide (l.ver<4611686018427387904)&&b) ?_
 cases l.held
 ·simp only[Bool.false_eq_true,if_false];rw[Bool.eq_iff_iff];simp
 ·simp only[if_true];exact decide_eq_decide.2 (by omega)
theorem PH (o:Int)(w:World):Calls prog 174 #[o] w fun e w'=>e=.returned (.bool (ownsB o))∧w=w':=by
 by_cases h0:0≤o
 ·by_cases h4:o<4
  ·rw[show ownsB o=true by simp[ownsB,h0,h4]]
   go_enter func174,ntmps174;go_wp2;go_ret;exact⟨rfl,rfl⟩
  ·rw[show ownsB o=false by simp[ownsB];omega]
   go_enter func174,ntmps174;go_wp2;go_ret;exact⟨rfl,rfl⟩
 ·rw[show ownsB o=false by simp[ownsB];omega]
  go_enter func174,ntmps174;go_wp2;go_ret;exact⟨rfl,rfl⟩
theorem Tw (v:Int)(h:Bool)(o:Int)(w:World):
  Calls prog 149 #[.agg #[υ v,.bool h,o]] w fun e w'=>e=.returned (.bool (isB v h o))∧w'=w.alloc (.cells #[υ v,.bool h,o] 93):=by
 by_cases hv:v<4611686018427387904
 ·cases h
  ·by_cases ho:o=0
   ·subst ho;rw[show isB v false 0=true by simp[isB,hv]]
    go_enter func149,ntmps149;go_wp2;go_ret;exact⟨rfl,rfl⟩
   ·rw[show isB v false o=false by simp[isB,ho]]
    have hq:(o==0)=false:=by simpa using ho
    go_enter func149,ntmps149;go_wp2;go_ret;exact⟨rfl,rfl⟩
  ·rw[show isB v true o=ownsB o by simp[isB,hv]]
   go_enter func149,ntmps149;go_wp2_with (go_at_call 174;refine(PH _ _).mono ?_;rintro e w1 ⟨rfl,rfl⟩);go_ret;exact⟨rfl,rfl⟩
 ·have hr:isB v h o=false:=by simp[isB];omega
  rw[hr];cases h
  ·go_enter func149,ntmps149;go_wp2;go_ret;exact⟨rfl,rfl⟩
  ·go_enter func149,ntmps149;go_wp2;go_ret;exact⟨rfl,rfl⟩
theorem Oi (b:Nat)(ls:List PLk)(wide:Nat)(h:Sat ω w (tabH b ls wide*F))(hn:ls.length≤1000)(at_:Nat)(ha:at_≤1000000):
  Calls prog 83 #[.pointer b,at_] w fun e w'=>e=.returned (.tuple #[lkA (if at_<ls.length then ls.getD at_ PLk.zero else PLk.zero),(if at_<ls.length then 0 else 2:Nat)])∧Only Nob w w':=by
 obtain⟨g,h⟩:=h.of_ex;have h:=h.assoc;have c0:=h.blk.cell 0;simp at c0;have hg:=h.blk.lt;have hg2:=h.right.blk.lt;have c1:=fun j=>(h.right.blk).cell (at_*3+j)
 have hv:=fun j=>CL lkV 3 (fun _=>rfl) PLk.zero ls at_ j
 generalize hws:ls.length=n at *
 have HN:=h_ hws;by_cases h2:at_<n
 ·rw[if_pos h2,if_pos h2];have c2:w.cell? (κ g (at_*3))=some (.int .u64 ((ls.getD at_ PLk.zero).ver:Int)):=by rw[show at_*3=at_*3+0 from rfl,c1];simpa [vL,lkV] using hv 0 h2 (by omega)
  have c3:w.cell? (κ g (at_*3+1))=some (.bool (ls.getD at_ PLk.zero).held):=by rw[c1];simpa [vL,lkV] using hv 1 h2 (by omega)
  have c4:w.cell? (κ g (at_*3+2))=some (.int .i64 ((ls.getD at_ PLk.zero).own:Int)):=by rw[c1];simpa [vL,lkV] using hv 2 h2 (by omega)
  clear c1 hv;generalize ls.getD at_ PLk.zero=x at *
  obtain⟨xv,xh,xo⟩:=x;simp only at c2 c3 c4;go_enter func83,ntmps83;go_wp2;refine bodyPost_ret (v:=.tuple #[lkA ⟨xv,xh,xo⟩,ι 0]) (by simp[results,results83,go_sem,lkA]) rfl ⟨rfl,?_⟩
  repeat' (first|(with_reducible first|refine Only.setCell ?_ ?_ _|refine Only.alloc ?_ _|refine Only.drewN ?_ _|refine Only.drew ?_|exact Only.refl _ _)|(right;simp;done)|(right;simp;omega))
 ·rw[if_neg h2,if_neg h2];go_enter func83,ntmps83;go_wp2;refine bodyPost_ret (v:=.tuple #[lkA PLk.zero,ι 2]) (by simp[results,results83,go_sem,lkA,PLk.zero]) rfl ⟨rfl,?_⟩
  repeat' (first|(with_reducible first|refine Only.setCell ?_ ?_ _|refine Only.alloc ?_ _|refine Only.drewN ?_ _|refine Only.drew ?_|exact Only.refl _ _)|(right;simp;done)|(right;simp;omega))
def mayE (ls:List PLk)(at_:Nat)(x:PLk):Nat:=if at_<ls.length then(if x.ok then 0 else 1) else 2
theorem Ue (x:PLk)(w:World):Calls prog 149 #[lkA x] w fun e w'=>e=.returned (.bool x.ok)∧w'=w.alloc (.cells #[υ x.ver,.bool x.held,x.own] 93):=by
 rw[←Tx];exact Tw _ _ _ _
theorem LU (b:Nat)(ls:List PLk)(wide:Nat)(h:Sat ω w (tabH b ls wide*F))(hn:ls.length≤1000)(at_:Nat)(ha:at_≤1000000)(x:PLk):
  Calls prog 124 #[.pointer b,at_,lkA x] w fun e w'=>e=.returned (.int .i64 (mayE ls at_ x:Int))∧Only Nob w w':=by
 obtain⟨g,h⟩:=h.of_ex;have h:=h.assoc;have c0:=h.blk.cell 0;simp at c0;have hg:=h.blk.lt;unfold mayE;generalize hws:ls.length=n at *
 have HX:=h_ (fun w1=>Ue x w1)
 generalize x.ok=ok at *
 obtain⟨xv,xh,xo⟩:=x;simp only[lkA] at HX ⊢;by_cases h2:at_<n
 ·rw[if_pos h2];cases ok;all_goals
   go_enter func124,ntmps124;go_wp2_with (first|(go_at_call 149;refine(HX.o _).mono ?_;rintro e w1 ⟨rfl,rfl⟩)|go_in)
   go_ret;refine⟨rfl,?_⟩;repeat' (first|(with_reducible first|refine Only.setCell ?_ ?_ _|refine Only.alloc ?_ _|refine Only.drewN ?_ _|refine Only.drew ?_|exact Only.refl _ _)|(right;simp;done)|(right;simp;omega))
 ·rw[if_neg h2];go_enter func124,ntmps124;go_wp2_with (first|(go_at_call 149;refine(HX.o _).mono ?_;rintro e w1 ⟨rfl,rfl⟩)|go_in)
  go_ret;refine⟨rfl,?_⟩;repeat' (first|(with_reducible first|refine Only.setCell ?_ ?_ _|refine Only.alloc ?_ _|refine Only.drewN ?_ _|refine Only.drew ?_|exact Only.refl _ _)|(right;simp;done)|(right;simp;omega))
theorem Ma (b:Nat)(ls:List PLk)(wide:Nat)(h:Sat ω w (tabH b ls wide*F))(hn:ls.length≤1000)(at_:Nat)(ha:at_≤1000000)(x:PLk):
  Calls prog 85 #[.pointer b,at_,lkA x] w (Rets ω F (.int .i64 (mayE ls at_ x:Int)) (tabH b (if mayE ls at_ x=0 then ls.set at_ x else ls) wide)):=by
 have H0:=h_ h;have HM:=h_ (fun w1 (h1:Sat ω w1 (tabH b ls wide*F))=>LU ω w1 F b ls wide h1 hn at_ ha x)
 obtain⟨g,h⟩:=h.of_ex;have h:=h.assoc;have c0:=h.blk.cell 0;simp at c0;have hg:=h.blk.lt;have hg2:=h.right.blk.lt;have f1:=h.right.blk.frozen (at_*3);have f2:=h.right.blk.frozen (at_*3+1);have f3:=h.right.blk.frozen (at_*3+2);have c1:=fun j=>(h.right.blk).cell (at_*3+j)
 have hv:=fun j=>CL lkV 3 (fun _=>rfl) PLk.zero ls at_ j
 have HQ:Hid (∀w1,Only Nob w w1→Sat ω (((w1.setCell (κ g (at_*3)) (.int .u64 x.ver)).setCell (κ g (at_*3+1)) (.bool x.held)).setCell (κ g (at_*3+2)) (.int .i64 x.own)) (tabH b (ls.set at_ x) wide*F)):=h_ (fun w1 ho=>by
  have h3:=((((h.nob ho).swap.set (at_*3) (.int .u64 x.ver)).set (at_*3+1) (.bool x.held)).put (at_*3+2) (.int .i64 x.own) (OZ x ls at_)).swap.assoc';refine Sat.to_ex g ?_;rw[show(ls.set at_ x).length=ls.length by simp]
  exact h3)
 have hm:mayE ls at_ x=0→at_<ls.length:=by unfold mayE;split<;>simp_all
 generalize hws:ls.length=n at *
 generalize hme:mayE ls at_ x=me at *
 have HN:=h_ hm;obtain⟨xv,xh,xo⟩:=x;simp only[lkA] at HM HQ ⊢;by_cases h2:me=0
 ·subst h2;have h2:=HN.o rfl;have c2:w.cell? (κ g (at_*3))=some (.int .u64 ((ls.getD at_ PLk.zero).ver:Int)):=by rw[show at_*3=at_*3+0 from rfl,c1];simpa [vL,lkV] using hv 0 h2 (by omega)
  have c3:w.cell? (κ g (at_*3+1))=some (.bool (ls.getD at_ PLk.zero).held):=by rw[c1];simpa [vL,lkV] using hv 1 h2 (by omega)
  have c4:w.cell? (κ g (at_*3+2))=some (.int .i64 ((ls.getD at_ PLk.zero).own:Int)):=by rw[c1];simpa [vL,lkV] using hv 2 h2 (by omega)
  go_enter func85,ntmps85;have KP:=h_ (Blk.new w 93 #[υ xv,.bool xh,xo]);have HC:Hid (∀w1,Only Nob w w1→(w1.cell? b=some (.slice (some ⟨g,0,none⟩) n n)∧w1.cell? (κ g (at_*3))=some (.int .u64 ((ls.getD at_ PLk.zero).ver:Int))∧w1.cell? (κ g (at_*3+1))=some (.bool (ls.getD at_ PLk.zero).held)∧w1.cell? (κ g (at_*3+2))=some (.int .i64 ((ls.getD at_ PLk.zero).own:Int))∧w1.frozen? (κ g (at_*3))=false∧w1.frozen? (κ g (at_*3+1))=false∧w1.frozen? (κ g (at_*3+2))=false)) :=
   h_ (fun w1 ho=>⟨(ho.cell (p:=⟨b,0,none⟩) hg (fun e=>e)).trans c0,(ho.cell (p:=⟨g,at_*3,none⟩) hg2 (fun e=>e)).trans c2,(ho.cell (p:=⟨g,at_*3+1,none⟩) hg2 (fun e=>e)).trans c3,(ho.cell (p:=⟨g,at_*3+2,none⟩) hg2 (fun e=>e)).trans c4,(ho.frozen (p:=⟨g,at_*3,none⟩) hg2 (fun e=>e)).trans f1,(ho.frozen (p:=⟨g,at_*3+1,none⟩) hg2 (fun e=>e)).trans f2,(ho.frozen (p:=⟨g,at_*3+2,none⟩) hg2 (fun e=>e)).trans f3⟩)
  go_wp2_with (go_at_call 124;refine(HM.o _ (H0.o.junk _)).mono ?_;rintro e w1 ⟨rfl,ho1⟩;have k1:=KP.out.only ho1 (fun e=>e);have k10:=k1.cell 0;have k11:=k1.cell 1;have k12:=k1.cell 2;have ho2:=Only.trans ((Only.refl Nob w).alloc _) ho1;have hz1:=ho1.size;simp only[World.size_alloc] at hz1;have HO:=h_ ho2;obtain⟨e0,e1,e2,e3,e4,e5,e6⟩:=HC.o _ ho2)
  go_region;all_goals
   go_wp2;go_ret
  all_goals exact⟨rfl,(HQ.o _ HO.o).drew⟩
 ·have d:((me:Int)==0)=false:=by simpa using h2
  rw[if_neg h2];go_enter func85,ntmps85;go_wp2_with (go_at_call 124;refine(HM.o _ (H0.o.junk _)).mono ?_;rintro e w1 ⟨rfl,ho1⟩;have ho2:=Only.trans ((Only.refl Nob w).alloc _) ho1;have HO:=h_ ho2);go_ret;exact⟨rfl,H0.o.nob HO.o⟩
theorem Rm (b:Nat)(ls:List PLk)(wide:Nat)(h:Sat ω w (tabH b ls wide*F))(hn:ls.length≤1000)(at_:Nat)(ha:at_≤1000000)(was x:PLk):
  Calls prog 84 #[.pointer b,at_,lkA was,lkA x] w (Rets ω F (.tuple #[.bool (decide (mayE ls at_ x=0∧ls.getD at_ PLk.zero=was)),(mayE ls at_ x:Int)]) (tabH b (if mayE ls at_ x=0∧ls.getD at_ PLk.zero=was then ls.set at_ x else ls) wide)):=by
 have H0:=h_ h;have HM:=h_ (fun w1 (h1:Sat ω w1 (tabH b ls wide*F))=>LU ω w1 F b ls wide h1 hn at_ ha x)
 obtain⟨g,h⟩:=h.of_ex;have h:=h.assoc;have c0:=h.blk.cell 0;simp at c0;have hg:=h.blk.lt;have hg2:=h.right.blk.lt;have f1:=h.right.blk.frozen (at_*3);have f2:=h.right.blk.frozen (at_*3+1);have f3:=h.right.blk.frozen (at_*3+2);have c1:=fun j=>(h.right.blk).cell (at_*3+j)
 have hv:=fun j=>CL lkV 3 (fun _=>rfl) PLk.zero ls at_ j
 have HQ:Hid (∀w1,Only Nob w w1→Sat ω (((w1.setCell (κ g (at_*3)) (.int .u64 x.ver)).setCell (κ g (at_*3+1)) (.bool x.held)).setCell (κ g (at_*3+2)) (.int .i64 x.own)) (tabH b (ls.set at_ x) wide*F)):=h_ (fun w1 ho=>by
  have h3:=((((h.nob ho).swap.set (at_*3) (.int .u64 x.ver)).set (at_*3+1) (.bool x.held)).put (at_*3+2) (.int .i64 x.own) (OZ x ls at_)).swap.assoc';refine Sat.to_ex g ?_;rw[show(ls.set at_ x).length=ls.length by simp]
  exact h3)
 have hm:mayE ls at_ x=0→at_<ls.length:=by unfold mayE;split<;>simp_all
 generalize hws:ls.length=n at *
 generalize hme:mayE ls at_ x=me at *
 have HN:=h_ hm;obtain⟨xv,xh,xo⟩:=x;simp only[lkA] at HM HQ ⊢;by_cases h2:me=0
 ·subst h2;have h2:=HN.o rfl;have c2:w.cell? (κ g (at_*3))=some (.int .u64 ((ls.getD at_ PLk.zero).ver:Int)):=by rw[show at_*3=at_*3+0 from rfl,c1];simpa [vL,lkV] using hv 0 h2 (by omega)
  have c3:w.cell? (κ g (at_*3+1))=some (.bool (ls.getD at_ PLk.zero).held):=by rw[c1];simpa [vL,lkV] using hv 1 h2 (by omega)
  have c4:w.cell? (κ g (at_*3+2))=some (.int .i64 ((ls.getD at_ PLk.zero).own:Int)):=by rw[c1];simpa [vL,lkV] using hv 2 h2 (by omega)
  go_enter func84,ntmps84;have HC:Hid (∀w1,Only Nob w w1→(w1.cell? b=some (.slice (some ⟨g,0,none⟩) n n)∧w1.cell? (κ g (at_*3))=some (.int .u64 ((ls.getD at_ PLk.zero).ver:Int))∧w1.cell? (κ g (at_*3+1))=some (.bool (ls.getD at_ PLk.zero).held)∧w1.cell? (κ g (at_*3+2))=some (.int .i64 ((ls.getD at_ PLk.zero).own:Int))∧w1.frozen? (κ g (at_*3))=false∧w1.frozen? (κ g (at_*3+1))=false∧w1.frozen? (κ g (at_*3+2))=false)) :=
   h_ (fun w1 ho=>⟨(ho.cell (p:=⟨b,0,none⟩) hg (fun e=>e)).trans c0,(ho.cell (p:=⟨g,at_*3,none⟩) hg2 (fun e=>e)).trans c2,(ho.cell (p:=⟨g,at_*3+1,none⟩) hg2 (fun e=>e)).trans c3,(ho.cell (p:=⟨g,at_*3+2,none⟩) hg2 (fun e=>e)).trans c4,(ho.frozen (p:=⟨g,at_*3,none⟩) hg2 (fun e=>e)).trans f1,(ho.frozen (p:=⟨g,at_*3+1,none⟩) hg2 (fun e=>e)).trans f2,(ho.frozen (p:=⟨g,at_*3+2,none⟩) hg2 (fun e=>e)).trans f3⟩)
  generalize ls.getD at_ PLk.zero=y at *
  obtain⟨yv,yh,yo⟩:=y;obtain⟨uv,uh,uo⟩:=was;by_cases q1:yv=uv
  ·subst q1;by_cases q2:yh=uh
   ·subst q2;by_cases q3:yo=uo
    ·subst q3;rw[if_pos (by simp),decide_eq_true (by simp)]
     have KP:=h_ ((Blk.new w 93 #[υ yv,.bool yh,yo]).alloc (.cells #[υ xv,.bool xh,xo] 93));have KX:=h_ (Blk.new' (w:=w.alloc (.cells #[υ yv,.bool yh,yo] 93)) (t:=93) (cs:=#[υ xv,.bool xh,xo]) (World.size_alloc _ _));go_wp2_with (first|(go_at_call 124;refine(HM.o _ ((H0.o.junk _).junk _)).mono ?_;rintro e w1 ⟨rfl,ho1⟩;have ho2:=Only.trans (((Only.refl Nob w).alloc _).alloc _) ho1;have hz1:=ho1.size;simp only[World.size_alloc] at hz1;have HO:=h_ ho2;obtain⟨e0,e1,e2,e3,e4,e5,e6⟩:=HC.o _ ho2;have k1:=KP.out.only ho1 (fun e=>e);have k10:=k1.cell 0;have k11:=k1.cell 1;have k12:=k1.cell 2;have m1:=KX.out.only ho1 (fun e=>e);have m10:=m1.cell 0;have m11:=m1.cell 1;have m12:=m1.cell 2))
     go_region;all_goals
      go_wp2;go_region
     all_goals
      go_wp2;go_ret2
     all_goals exact⟨rfl,(HQ.o _ HO.o.drew).drew⟩
    ·rw[if_neg (fun h=>q3 (by have:=h.2;injection this)),decide_eq_false (fun h=>q3 (by have:=h.2;injection this))]
     have d:¬(yo:Int)=(uo:Int):=by omega
     have Q:=h_ q3;have KP:=h_ ((Blk.new w 93 #[υ yv,.bool yh,uo]).alloc (.cells #[υ xv,.bool xh,xo] 93));have KX:=h_ (Blk.new' (w:=w.alloc (.cells #[υ yv,.bool yh,uo] 93)) (t:=93) (cs:=#[υ xv,.bool xh,xo]) (World.size_alloc _ _));go_wp2_with (first|(go_at_call 124;refine(HM.o _ ((H0.o.junk _).junk _)).mono ?_;rintro e w1 ⟨rfl,ho1⟩;have ho2:=Only.trans (((Only.refl Nob w).alloc _).alloc _) ho1;have hz1:=ho1.size;simp only[World.size_alloc] at hz1;have HO:=h_ ho2;obtain⟨e0,e1,e2,e3,e4,e5,e6⟩:=HC.o _ ho2;have k1:=KP.out.only ho1 (fun e=>e);have k10:=k1.cell 0;have k11:=k1.cell 1;have k12:=k1.cell 2;have m1:=KX.out.only ho1 (fun e=>e);have m10:=m1.cell 0;have m11:=m1.cell 1;have m12:=m1.cell 2))
     go_region;all_goals
      go_wp2;go_ret2;exact⟨rfl,(H0.o.nob HO.o).drew⟩
   ·rw[if_neg (fun h=>q2 (by have:=h.2;injection this)),decide_eq_false (fun h=>q2 (by have:=h.2;injection this))]
    have KP:=h_ ((Blk.new w 93 #[υ yv,.bool uh,uo]).alloc (.cells #[υ xv,.bool xh,xo] 93));have KX:=h_ (Blk.new' (w:=w.alloc (.cells #[υ yv,.bool uh,uo] 93)) (t:=93) (cs:=#[υ xv,.bool xh,xo]) (World.size_alloc _ _));go_wp2_with (first|(go_at_call 124;refine(HM.o _ ((H0.o.junk _).junk _)).mono ?_;rintro e w1 ⟨rfl,ho1⟩;have ho2:=Only.trans (((Only.refl Nob w).alloc _).alloc _) ho1;have hz1:=ho1.size;simp only[World.size_alloc] at hz1;have HO:=h_ ho2;obtain⟨e0,e1,e2,e3,e4,e5,e6⟩:=HC.o _ ho2;have k1:=KP.out.only ho1 (fun e=>e);have k10:=k1.cell 0;have k11:=k1.cell 1;have k12:=k1.cell 2;have m1:=KX.out.only ho1 (fun e=>e);have m10:=m1.cell 0;have m11:=m1.cell 1;have m12:=m1.cell 2))
    go_region;all_goals
     go_wp2;go_ret2;exact⟨rfl,(H0.o.nob HO.o).drew⟩
  ·rw[if_neg (fun h=>q1 (by have:=h.2;injection this)),decide_eq_false (fun h=>q1 (by have:=h.2;injection this))]
   have d:¬(yv:Int)=(uv:Int):=by omega
   have Q:=h_ q1;have KP:=h_ ((Blk.new w 93 #[υ uv,.bool uh,uo]).alloc (.cells #[υ xv,.bool xh,xo] 93));have KX:=h_ (Blk.new' (w:=w.alloc (.cells #[υ uv,.bool uh,uo] 93)) (t:=93) (cs:=#[υ xv,.bool xh,xo]) (World.size_alloc _ _));go_wp2_with (first|(go_at_call 124;refine(HM.o _ ((H0.o.junk _).junk _)).mono ?_;rintro e w1 ⟨rfl,ho1⟩;have ho2:=Only.trans (((Only.refl Nob w).alloc _).alloc _) ho1;have hz1:=ho1.size;simp only[World.size_alloc] at hz1;have HO:=h_ ho2;obtain⟨e0,e1,e2,e3,e4,e5,e6⟩:=HC.o _ ho2;have k1:=KP.out.only ho1 (fun e=>e);have k10:=k1.cell 0;have k11:=k1.cell 1;have k12:=k1.cell 2;have m1:=KX.out.only ho1 (fun e=>e);have m10:=m1.cell 0;have m11:=m1.cell 1;have m12:=m1.cell 2))
   go_region;all_goals
    go_wp2;go_ret2;exact⟨rfl,(H0.o.nob HO.o).drew⟩
 ·have d:((me:Int)==0)=false:=by simpa using h2
  rw[if_neg (fun h=>h2 h.1),decide_eq_false (fun h=>h2 h.1)]
  obtain⟨uv,uh,uo⟩:=was;go_enter func84,ntmps84;go_wp2_with (go_at_call 124;refine(HM.o _ ((H0.o.junk _).junk _)).mono ?_;rintro e w1 ⟨rfl,ho1⟩;have ho2:=Only.trans (((Only.refl Nob w).alloc _).alloc _) ho1;have HO:=h_ ho2);go_ret2;exact⟨rfl,H0.o.nob HO.o⟩
end
def clkH (b:Nat)(n:Nat):HP:=bk b 174 #[υ n]
theorem Qg (w:World)(b:Nat)(n:Int)(c0:w.cell? b=some (.int .u64 n)):
  Calls prog 86 #[.pointer b] w fun e w'=>e=.returned (υ n)∧w=w':=by
 go_enter func86,ntmps86;go_wp2;go_ret;exact⟨rfl,rfl⟩
def casE (n old now:Int):Bool×Int×Int :=
 if now≤old then(false,1,n) else if 4611686018427387904≤now then(false,7,n) else if n=old then(true,0,now) else(false,0,n)
theorem Su (w:World)(b:Nat)(n old now:Int)(c0:w.cell? b=some (.int .u64 n))(f0:w.frozen? (κ b 0)=false):
  Calls prog 87 #[.pointer b,υ old,υ now] w fun e w'=>e=.returned (.tuple #[.bool (casE n old now).1,.int .i64 (casE n old now).2.1])∧w'=if(casE n old now).1=true then w.setCell b (υ now) else w:=by
 by_cases h1:now≤old
 ·rw[show casE n old now=(false,1,n) by unfold casE;rw[if_pos h1]]
  go_enter func87,ntmps87;go_wp2;go_ret2;exact⟨rfl,rfl⟩
 ·by_cases h2:4611686018427387904≤now
  ·rw[show casE n old now=(false,7,n) by unfold casE;rw[if_neg h1,if_pos h2]]
   go_enter func87,ntmps87;go_wp2;go_ret2;exact⟨rfl,rfl⟩
  ·by_cases h3:n=old
   ·rw[show casE n old now=(true,0,now) by unfold casE;rw[if_neg h1,if_neg h2,if_pos h3]]
    subst h3;go_enter func87,ntmps87;go_wp2;go_ret2;exact⟨rfl,rfl⟩
   ·rw[show casE n old now=(false,0,n) by unfold casE;rw[if_neg h1,if_neg h2,if_neg h3]]
    have d:(n==old)=false:=by simpa using h3
    have d2:(n != old)=true:=by simpa using h3
    go_enter func87,ntmps87;go_wp2;go_ret2;exact⟨rfl,rfl⟩
def epH (b:Nat)(ws:List Nat):HP:=ex fun g:Nat=>bk b 176 #[.slice (some ⟨g,0,none⟩) ws.length ws.length]*bk g 22 (vU ws).toArray
theorem Sk (ω w:World)(F:HP)(b:Nat)(ws:List Nat)(h:Sat ω w (epH b ws*F))(hn:ws.length≤1000)(at_:Nat)(ha:at_≤1000000):
  Calls prog 88 #[.pointer b,at_] w fun e w'=>e=.returned (.tuple #[υ (if at_<ws.length then ws.getD at_ 0 else 0:Nat),(if at_<ws.length then 0 else 2:Nat)])∧w=w':=by
 obtain⟨g,h⟩:=h.of_ex;have h:=h.assoc;have c0:=h.blk.cell 0;simp at c0;have c1:=(h.right.blk).cell at_;have hv:=@Db ws;generalize hws:ws.length=n at *
 have HN:=h_ hws;by_cases h2:at_<n
 ·rw[if_pos h2,if_pos h2];have c2:w.cell? (κ g at_)=some (.int .u64 ((ws.getD at_ 0:Nat):Int)):=by rw[c1];simpa using hv h2
  clear c1 hv;generalize ws.getD at_ 0=x at *
  go_enter func88,ntmps88;go_wp2;go_ret2;exact⟨rfl,rfl⟩
 ·rw[if_neg h2,if_neg h2];go_enter func88,ntmps88;go_wp2;go_ret2;exact⟨rfl,rfl⟩
theorem QE (ω w:World)(F:HP)(b:Nat)(ws:List Nat)(h:Sat ω w (epH b ws*F))(hn:ws.length≤1000)(at_ v:Nat)(ha:at_≤1000000):
  Calls prog 89 #[.pointer b,at_,υ v] w (Rets ω F (.int .i64 ((if at_<ws.length then 0 else 2:Nat):Int)) (epH b (if at_<ws.length then ws.set at_ v else ws))):=by
 have H0:=h_ h;obtain⟨g,h⟩:=h.of_ex;have h:=h.assoc;have H:=h_ h;have c0:=h.blk.cell 0;simp at c0;have c1:=(h.right.blk).cell at_;have f1:=(h.right.blk).frozen at_;have hv:=@Db ws;have HQ:Hid (at_<ws.length→Sat ω (w.setCell (κ g at_) (υ v)) (epH b (ws.set at_ v)*F)):=h_ (fun h2=>by
  have h3:=(h.swap.put at_ (υ v) (GR ws at_ v)).swap.assoc';refine Sat.to_ex g ?_;rw[show(ws.set at_ v).length=ws.length by simp]
  exact h3)
 generalize hws:ws.length=n at *
 have HN:=h_ hws;by_cases h2:at_<n
 ·rw[if_pos h2,if_pos h2];have c2:w.cell? (κ g at_)=some (.int .u64 ((ws.getD at_ 0:Nat):Int)):=by rw[c1];simpa using hv h2
  generalize ws.getD at_ 0=x at *
  go_enter func89,ntmps89;go_wp2;go_ret;exact⟨rfl,HQ.o h2⟩
 ·rw[if_neg h2,if_neg h2];go_enter func89,ntmps89;go_wp2;go_ret;exact⟨rfl,H0.o⟩
section
theorem rT {P:Program}{id:Nat}{Q:Exit→Act→World→Prop}{a:Act}{w:World}{l:List Oper}(n:Nat)
  (h:wpStill P l.toArray w.drew (fun a'=>wpList P l.toArray Q (l.drop n) a' w.drew) (l.take n) a) (hm:P.follows .mixedOrders=true:=by kernel_rfl) (hB:Region.lexTailB .any l.toArray n=true:=by kernel_rfl):(Code.region id l.toArray true).wp P Q a w:=wp_region_still_tail n hm hB h
section
variable {P : Program} {ops : Array Oper} {md : Region.Mode} {w : World}
def hangB (md:Region.Mode)(ops:Array Oper)(n:Nat):Bool :=
 (List.range ops.size).all fun t=>decide (t≤n)||(List.range t).any fun j=>decide (n≤j)&&Region.waitsFor md ops t j
theorem Ec {n:Nat}{listed:Array Bool}(hs:Region.sinkB md ops n=true)(hc:hangB md ops n=true)(hn:n<ops.size)(inv:HeadInv md ops n listed):
  ∀(d i:Nat),n-i=d→i<n→listed.getD i true=false→∀t,n≤t→t∉Region.ready md ops listed:=by
 intro d;induction d using Nat.strongRecOn with
 |_ d ih =>
  intro i hd hi hun t ht hr;obtain⟨_,ot,hot,hall⟩:=mem_ready.1 hr;have htlt:t<ops.size:=(Array.getElem?_eq_some_iff.1 hot).1;by_cases htn:t=n
  ·subst htn;have h1:=List.all_eq_true.1 hs i (List.mem_range.2 hi);obtain⟨j,hj,hj2⟩:=List.any_eq_true.1 h1;simp only[Bool.and_eq_true,decide_eq_true_eq] at hj2;obtain⟨oj,hoj,e,he,hb,hon⟩:=Region.waitsFor_spec hj2.2;have hjle:j≤t:=by have:=List.mem_range.1 hj;omega
   by_cases hjt:j=t
   ·subst hjt
    have:oj=ot:=Option.some.inj (hoj.symm.trans hot)
    subst this;have h2:=hall e he hb;rw[hon,getD_both hun] at h2;cases h2
   ·cases hl:listed.getD j false with
    |true =>
     have h2:=inv.closed j oj hoj hl e he hb;rw[hon,getD_both hun] at h2;cases h2
    |false =>
     have hjs:j<listed.size:=by rw[inv.size];omega
     exact ih (t-j) (by omega) j rfl (by omega) (getD_in hjs hl) t (Nat.le_refl _) hr
  ·have h1:=List.all_eq_true.1 hc t (List.mem_range.2 htlt);simp only[Bool.or_eq_true,decide_eq_true_eq] at h1;rcases h1 with h1|h1
   ·omega
   ·obtain⟨j,hj,hj2⟩:=List.any_eq_true.1 h1;simp only[Bool.and_eq_true,decide_eq_true_eq] at hj2;have hjt:=List.mem_range.1 hj;obtain⟨o',ho',e,he,hb,hon⟩:=Region.waitsFor_spec hj2.2
    have:o'=ot:=Option.some.inj (ho'.symm.trans hot)
    subst this;have h2:=hall e he hb;rw[hon,getD_both (inv.tail j (by omega) (by omega))] at h2
    cases h2
theorem Jp {n i:Nat}{oi:Oper}{v:Value}{L:Array Bool→Act→Prop}(hi:ops[i]?=some oi)(hsel:∀(j:Nat) (o:Oper) cs b,ops[j]?=some o→o.op≠.select cs b)
  (hs:Region.sinkB md ops n=true) (hc:hangB md ops n=true) (hn:n<ops.size) (hin:i<n)
  (hdone:∀listed a,L listed a→∀j∈Region.ready md ops listed,n≤j):
  ∀(f:Nat) (listed:Array Bool) (a:Act),HeadInv md ops n listed →
   (∀j oj,ops[j]?=some oj→j≠i→listed.getD j true=false→(∀e∈oj.after,Region.binds md e=true→e.on≠i)→oi.apart ops oj=true) →
   i∈Region.ready md ops listed→YieldsAt P ops w oi v a →
   wpAnyL P md ops w n L f (listed.setIfInBounds i true) (a.put oi.dst v)→wpAnyL P md ops w n L (f+1) listed a:=by
 intro f;induction f with
 |zero =>
  intro listed a inv _ hr hy H;have hun:=(mem_ready.1 hr).1;refine⟨fun h=>(by rw[h] at hr;cases hr),fun j hj=>?_⟩
  have hjn:j<n:=by
   rcases Nat.lt_or_ge j n with h|h
   ·exact h
   ·exact absurd hj (Ec hs hc hn inv _ i rfl hin hun j h)
  refine⟨hjn,?_⟩;by_cases hji:j=i
  ·subst hji;exact hy.stOp hi H
  ·have:=hdone _ _ H j (ready_mono hj hji)
   omega
 |succ f ih =>
  intro listed a inv hfree hr hy H;have hun:=(mem_ready.1 hr).1;refine⟨fun h=>(by rw[h] at hr;cases hr),fun j hj=>?_⟩
  have hjn:j<n:=by
   rcases Nat.lt_or_ge j n with h|h
   ·exact h
   ·exact absurd hj (Ec hs hc hn inv _ i rfl hin hun j h)
  refine⟨hjn,?_⟩;by_cases hji:j=i
  ·subst hji;exact hy.stOp hi H
  ·have h1:=(H.2 j (ready_mono hj hji)).2;obtain⟨hjun,oj,hoj,hall⟩:=mem_ready.1 hj;have hnot:∀e∈oj.after,Region.binds md e=true→e.on≠i:=fun e he hb heq=>by
    have h1:=hall e he hb;rw[heq,getD_both hun] at h1;cases h1
   have h2:=stOp_put hoj (hfree j oj hoj hji hjun hnot) (fun cs b=>hsel i oi cs b hi) (fun cs b=>hsel j oj cs b hoj) hy h1
   have hfree':∀k ok,ops[k]?=some ok→k≠i→(listed.setIfInBounds j true).getD k true=false →
     (∀e∈ok.after,Region.binds md e=true→e.on≠i)→oi.apart ops ok=true:=fun k ok hk hki hun hno=>by
    refine hfree k ok hk hki ?_ hno;by_cases hjk:j=k
    ·subst hjk;exact hjun
    ·rw[getD_set_ne true hjk] at hun;exact hun
   refine stOp_mono (fun a' h3=>ih (listed.setIfInBounds j true) a' (inv.set hj hjn) hfree' (ready_mono hr (Ne.symm hji)) h3.1 ?_) h2
   rw[Array.setIfInBounds_comm _ _ hji];exact h3.2
def headB (md:Region.Mode)(ops:Array Oper)(n:Nat)(L:Array Bool):Nat→Nat→Array Bool→Bool
 |0,_,listed=>listed==L&&(Region.ready md ops listed).all fun j=>decide (n≤j)
 |f+1,k,listed=>(Region.ready md ops listed).contains k&&Region.free md ops listed k&&headB md ops n L f (k+1) (listed.setIfInBounds k true)
def restB (md:Region.Mode)(ops:Array Oper)(n:Nat)(L:Array Bool):Bool :=
 Region.noSelect ops&&decide (n<ops.size)&&Region.sinkB md ops n&&hangB md ops n&&headB md ops n L n 0 (Array.replicate ops.size false)&&(Region.ready md ops L).all fun j=>decide (n≤j)
theorem IB {n:Nat}{L:Array Bool}{Lq:Act→Prop}(hsel:Region.noSelect ops=true)(hs:Region.sinkB md ops n=true)(hc:hangB md ops n=true)(hn:n<ops.size)(hL:∀j∈Region.ready md ops L,n≤j):
  ∀(l:List Oper) (k:Nat) (listed:Array Bool) (a:Act),(∀j,j<l.length→l[j]?=ops[k+j]?)→k+l.length=n→HeadInv md ops n listed →
  headB md ops n L l.length k listed=true→wpStill P ops w Lq l a →
  wpAnyL P md ops w n (fun listed' a'=>listed'=L∧Lq a') l.length listed a
 | [],k,listed,a,_,hk,_,hB,h=>by
  simp only[List.length_nil,headB,Bool.and_eq_true,beq_iff_eq] at hB;exact⟨hB.1,h⟩
 |o::l,k,listed,a,hl,hk,inv,hB,h=>by
  have h0:ops[k]?=some o:=by simpa using (hl 0 (by simp)).symm
  simp only[List.length_cons,headB,Bool.and_eq_true] at hB;obtain⟨⟨hr,hf⟩,hB'⟩:=hB;have hkn:k<n:=by simp only[List.length_cons] at hk;omega
  have hr':k∈Region.ready md ops listed:=by simpa using hr
  have hst:stOp P ops w k (wpStill P ops w Lq l) a:=by unfold stOp;simp only[h0];exact h
  obtain⟨v,hy,hK⟩:=yieldsAt_of_stOp h0 hst;exact Jp h0 (Region.noSelect_spec hsel) hs hc hn hkn (fun listed' a' (hL':listed'=L∧Lq a')=>hL'.1▸hL) l.length listed a inv (Region.free_spec h0 hf) hr' hy
   (IB hsel hs hc hn hL l (k+1) _ _ (fun j hj=>by have:=hl (j+1) (by simp;omega);simpa [Nat.add_assoc,Nat.add_comm 1 j] using this) (by simp only[List.length_cons] at hk;omega) (inv.set hr' hkn) hB' hK)
theorem Ay {id:Nat}{Q:Exit→Act→World→Prop}{a:Act}{w:World}{l:List Oper}(n:Nat)(L:Array Bool)(hm:P.follows .mixedOrders=true)(hB:restB .any l.toArray n L=true)
  (h:wpStill P l.toArray w.drew (fun a'=>wpAny P .any l.toArray Q (l.length-n) L a' w.drew) (l.take n) a):(Code.region id l.toArray true).wp P Q a w:=by
 simp only[restB,Bool.and_eq_true,decide_eq_true_eq] at hB;obtain⟨⟨⟨⟨⟨hsel,hn⟩,hs⟩,hc⟩,hlex⟩,hL⟩:=hB;have hn':n<l.length:=by simpa using hn
 have htl:(l.take n).length=n:=by simp;omega
 have inv0:HeadInv .any l.toArray n (Array.replicate l.toArray.size false) :=
  ⟨by simp,fun j oj _ hl=>(by rw[getD_replicate_false] at hl;cases hl),fun t _ ht=>getD_in (by simpa using ht) (getD_replicate_false _ _)⟩
 have H:=IB (md:=.any) (L:=L) hsel hs hc hn (fun j hj=>by have:=List.all_eq_true.1 hL j hj;simpa using this) (l.take n) 0 _ a (fun j hj=>by
  have hj':j<n:=by rw[htl] at hj;exact hj
  simp[hj']) (by simpa using htl) inv0 (by rw[htl];exact hlex) h
 refine wp_region_any hm ?_
 have:=wpAny_of_head (Q':=Q) (g:=l.length-n) (fun listed a' hL=>by
  rw[hL.1];exact hL.2) _ _ _ H
 rw[htl,show n+(l.length-n)=l.toArray.size by simp;omega] at this
 exact this
end
end
end Go.Proofs.YtfodmgaliclhfaaGreatDoor
