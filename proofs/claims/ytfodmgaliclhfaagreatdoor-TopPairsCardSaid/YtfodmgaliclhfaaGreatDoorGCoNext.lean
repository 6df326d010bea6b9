/- Lemmas for TopPairs; no conditions. -/
import Derived.Test.YtfodmgaliclhfaaGreatDoorGMmHeap
import Derived.Test.YtfodmgaliclhfaaGreatDoorGSlPlain
namespace Go.Proofs.YtfodmgaliclhfaaGreatDoor
set_option linter.unusedVariables false
set_option linter.unusedSimpArgs false
set_option maxRecDepth 100000
set_option maxHeartbeats 4000000
open Go.RowKit
abbrev PWr:=List (Nat×Nat)
def wAt (w:PWr)(p:Nat):Option Nat:=w.findIdx? (·.1==p)
def wGet (w:PWr)(p:Nat):Option Nat:=(wAt w p).map fun i=>(w.getD i (0,0)).2
def wPut (most:Nat)(w:PWr)(p v:Nat):Nat×PWr :=
 if p<1∨256≤p then(2,w)
 else match wAt w p with
 |some i=>(0,w.set i (p,v))
 |none=>if most≤w.length then(5,w) else(0,w++[(p,v)])
def wTakeF (most:Nat):PWr→PWr→Nat×PWr
 |w,[]=>(0,w)
 |w,c::l=>let r:=wPut most w c.1 c.2;if r.1≠0 then r else wTakeF most r.2 l
def wTake (most:Nat)(w l:PWr):Nat×PWr :=
 let r:=wTakeF most w l
 if r.1≠0 then(r.1,w) else r
structure PLv where
 most:Nat
 rows:List PWr
def PLv.new (most:Nat):PLv:=⟨min most 96,[[]]⟩
def PLv.inmost (l:PLv):PWr:=l.rows.getLastD []
def PLv.setIn (l:PLv)(w:PWr):PLv:={ l with rows:=l.rows.dropLast++[w] }
def PLv.room (l:PLv):Int:=l.rows.foldl (fun n r=>n-(r.length:Int)) l.most
def PLv.open_ (l:PLv):Nat×PLv:=if 6≤l.rows.length then(9,l) else(0,{ l with rows:=l.rows++[[]] })
def PLv.drop (l:PLv):Nat×PLv:=if l.rows.length=1 then(10,l) else(0,{ l with rows:=l.rows.dropLast })
def PLv.keep (l:PLv):Nat×PLv :=
 let w:=l.inmost;let r:=l.drop
 if r.1≠0 then r else
 let t:=wTake 96 r.2.inmost w
 (t.1,r.2.setIn t.2)
def PLv.put (l:PLv)(p v:Nat):Nat×PLv :=
 if p<1∨256≤p then(2,l)
 else if(wGet l.inmost p).isNone∧l.room=0 then(5,l)
 else let r:=wPut 96 l.inmost p v;(r.1,l.setIn r.2)
def PLv.getF:List PWr→Nat→Option Nat
 | [],_=>none
 |r::l,p=>(wGet r p).or (PLv.getF l p)
def PLv.get (l:PLv)(p:Nat):Option Nat:=PLv.getF l.rows.reverse p
def PLv.cells (l:PLv):PWr:=l.rows.reverse.foldl (fun out r=>(wTake 96 (wTake 96 [] r).2 out).2) []
structure PVw where
 facts:List (Option Nat)
 order:List Nat
 logs:PLv
 need:Nat
def PVw.new (words most:Nat):PVw:=⟨List.replicate (max 32 (min words 256)) none,[],PLv.new most,0⟩
def PVw.is (v:PVw)(p:Nat):Bool:=decide (1≤p)&&decide (p<v.facts.length)
def PVw.know (v:PVw)(p x:Nat):Nat×PVw :=
 if v.is p=false then(2,v)
 else match v.facts.getD p none with
 |some y=>(if y≠x then 14 else 0,v)
 |none=>(0,{ v with facts:=v.facts.set p (some x),order:=v.order++[p] })
def PVw.known (v:PVw):List (Nat×Nat):=v.order.map fun p=>(p,(v.facts.getD p none).getD 0)
def PVw.read (v:PVw)(p:Nat):Nat×Nat×PVw :=
 if v.is p=false then(0,2,v)
 else match v.logs.get p with
 |some x=>(x,0,v)
 |none=>match v.facts.getD p none with
  |some x=>(x,0,v)
  |none=>(0,11,{ v with need:=p })
def PVw.write (v:PVw)(p x:Nat):Nat×PVw :=
 if v.is p=false then(2,v) else let r:=v.logs.put p x;(r.1,{ v with logs:=r.2 })
def PVw.open_ (v:PVw):Nat×PVw:=let r:=v.logs.open_;(r.1,{ v with logs:=r.2 })
def PVw.keep (v:PVw):Nat×PVw:=let r:=v.logs.keep;(r.1,{ v with logs:=r.2 })
def PVw.drop (v:PVw):Nat×PVw:=let r:=v.logs.drop;(r.1,{ v with logs:=r.2 })
def rdGet (r:List (Nat×Nat))(s:Nat):Option Nat:=(r.find? (·.1==s)).map (·.2)
def rdAdd (r:List (Nat×Nat))(x:Nat×Nat):Nat×List (Nat×Nat) :=
 if 16≤x.1∨4611686018427387904≤x.2 then(1,r)
 else match rdGet r x.1 with
 |some v=>(if v≠x.2 then 14 else 0,r)
 |none=>if r.length=16 then(5,r) else(0,r++[x])
structure PPt where
 op:Int
 at_:Nat
 regs:List Nat
 told:Nat
structure PIt where
 code:List PIns
 fin:Nat
 err:Nat
 regs:List Nat
 out:List Itm
 at_:Nat
 next:Nat
 left:Nat
 opens:List PPt
def PIt.new (code:List PIns)(fuel:Nat):PIt:=⟨code,0,0,List.replicate 8 0,[],0,0,min fuel 400,[]⟩
def PIt.reg (x:PIt)(k:Int):Nat:=x.regs.getD (k.toNat%8) 0
def PIt.setReg (x:PIt)(k:Int)(v:Nat):PIt:={ x with regs:=x.regs.set (k.toNat%8) v }
def placeP (base:Nat)(off:Int):Nat×Nat :=
 if 2147483648≤base∨2147483648≤(base:Int)+off∨(base:Int)+off<6 then(0,2) else(((base:Int)+off).toNat,0)
def PIt.begin (x:PIt)(v:PVw)(op:Int)(p:Nat):Nat×PIt×PVw :=
 let r:=v.open_
 if r.1≠0 then(r.1,x,r.2) else(0,{ x with opens:=x.opens++[⟨op,p,x.regs,x.out.length⟩] },r.2)
def PIt.leave (x:PIt):PPt×PIt:=(x.opens.getLastD ⟨0,0,[],0⟩,{ x with opens:=x.opens.dropLast })
def PIt.back (x:PIt)(p:PPt):PIt:={ x with regs:=p.regs,out:=x.out.take p.told }
def PIt.match_ (x:PIt)(k:Nat):Nat:=((matchP x.code).getD k 0).toNat
def PIt.retryF:Nat→PIt→PVw→Nat×PIt×PVw
 |0,x,v=>(0,{ x with next:=x.at_,fin:=3 },v)
 |n+1,x,v =>
  if x.opens=[] then(0,{ x with next:=x.at_,fin:=3 },v) else
  let p:=x.leave.1;let x:=x.leave.2;let r:=v.drop
  if r.1≠0 then(r.1,x,r.2) else
  if p.op=17 then
   let x:=x.back p;let k:=x.match_ p.at_
   { x with next:=k+1 }.begin r.2 18 k
  else PIt.retryF n x r.2
def PIt.retry (x:PIt)(v:PVw):Nat×PIt×PVw:=PIt.retryF x.opens.length x v
def PIt.exec (x:PIt)(v:PVw)(i:PIns):Nat×PIt×PVw :=
 let a:=x.reg i.a;let b:=x.reg i.b;let c:=x.reg i.c
 match i.op with
 |1=>(0,x.setReg i.a i.n.toNat,v)
 |2=>(0,x.setReg i.a b,v)
 |3=>(0,x.setReg i.a ((b+c)%18446744073709551616),v)
 |12=>(0,{ x with next:=i.c.toNat },v)
 |13=>(0,if a=0 then { x with next:=i.c.toNat } else x,v)
 |21=>if 16≤x.out.length then(5,x,v) else(0,{ x with out:=x.out++[.num a] },v)
 |8 =>
  let p:=placeP b i.c
  if p.2≠0 then(p.2,x,v) else
  let r:=v.read p.1
  (r.2.1,if r.2.1=0 then x.setReg i.a r.1 else x,r.2.2)
 |9 =>
  let p:=placeP a i.c
  if p.2≠0 then(p.2,x,v) else
  let r:=v.write p.1 b
  (r.1,x,r.2)
 |14=>x.begin v 14 x.at_
 |17=>x.begin v 17 x.at_
 |15=>let r:=v.keep;(r.1,x.leave.2,r.2)
 |19=>let r:=v.keep;(r.1,x.leave.2,r.2)
 |18=>let r:=v.keep;(r.1,{ x.leave.2 with next:=x.match_ x.at_+1 },r.2)
 |_=>x.retry v
def PIt.runF:Nat→PIt→PVw→Nat×PIt×PVw
 |0,x,v=>(x.fin,x,v)
 |n+1,x,v =>
  if x.fin≠0 then(x.fin,x,v)
  else if x.at_=x.code.length then(2,{ x with fin:=2 },v)
  else if x.left=0 then(4,{ x with fin:=4,err:=6 },v)
  else
   let r:={ x with next:=x.at_+1 }.exec v (x.code.getD x.at_ PIns.none)
   if r.1=0 then PIt.runF n { r.2.1 with at_:=r.2.1.next,left:=r.2.1.left-1 } r.2.2
   else if r.1=11 then(1,r.2.1,r.2.2)
   else(4,{ r.2.1 with fin:=4,err:=r.1 },r.2.2)
def PIt.run (x:PIt)(v:PVw):Nat×PIt×PVw:=PIt.runF (x.left+1) x v
structure PSt where
 words:Nat
 stripes:Nat
 wide:Nat
 threads:Nat
 start:Nat
 spins:Nat
 writes:Nat
 fuel:Nat
def PSt.held (s:PSt):PSt :=
 ⟨max 32 (min s.words 256),max 1 (min s.stripes 16),max 1 (min s.wide 16),max 1 (min s.threads 4),min s.start 4611686018427387903,min s.spins 4,min s.writes 96,min s.fuel 400⟩
inductive PIn where
 |none
 |fetch (f:PFe)
 |extend (x:PEx)
 |commit (c:PCo)
def PIn.next:PIn→POp×Bool
 | .none=>(POp.zero,false)
 | .fetch f=>f.next
 | .extend x=>x.next
 | .commit c=>c.next
def PIn.tell:PIn→PAns→PIn
 | .none,_=>.none
 | .fetch f,a=>.fetch (f.tell a)
 | .extend x,a=>.extend (x.tell a)
 | .commit c,a=>.commit (c.tell a)
def PIn.rule:PIn→PPat
 | .none=>PPat.new 0 0
 | .fetch f=>f.rule
 | .extend x=>x.rule
 | .commit c=>c.rule
structure PAt where
 me:Nat
 run:PIt
 v:PVw
 reads:List (Nat×Nat)
 state:Nat
 inner:PIn
 begun:Bool
 begin:Nat
 stamp:Nat
 fin:Nat
 by_:Int
 err:Nat
 blocking:Bool
def PAt.new (me:Nat)(s:PSt)(p:List PIns):PAt :=
 ⟨me,PIt.new p s.fuel,PVw.new s.words s.writes,[],0,.none,false,0,0,0,-1,0,false⟩
def PAt.next (x:PAt):POp×Bool :=
 match x.state with
 |0=>({ POp.at' 9 x.me with word:=1 },true)
 |1=>(POp.at' 6 0,true)
 |2=>({ POp.at' 9 x.me with word:=x.stamp+1 },true)
 |7=>(POp.at' 9 x.me,true)
 |8=>(POp.zero,false)
 |_=>x.inner.next
def PAt.out (x:PAt)(fin err:Nat)(b:Int):PAt:={ x with fin:=fin,err:=err,by_:=b,state:=7 }
def PAt.ask (x:PAt)(s:PSt)(p:Nat):PAt:={ x with state:=3,inner:=.fetch (PFe.new x.me p (stripeOf p s.stripes s.wide) s.spins x.stamp) }
def PAt.later (x:PAt)(s:PSt)(state:Nat):PAt:={ x with state:=state,inner:=.extend (PEx.new x.me s.spins x.reads) }
def PAt.work (x:PAt)(s:PSt):PAt :=
 let r:=x.run.run x.v;let x:={ x with run:=r.2.1,v:=r.2.2 }
 match r.1 with
 |1=>x.ask s x.v.need
 |3=>{ x with blocking:=true }.later s 5
 |4=>x.out 4 x.run.err (-1)
 |_ =>
  let cells:=x.v.logs.cells
  if cells=[] then x.out 2 0 (-1)
  else { x with state:=6,inner:=.commit (PCo.new x.me s.spins x.stamp x.reads cells s.stripes s.wide) }
def PAt.fetched (x:PAt)(s:PSt)(f:PFe):PAt :=
 if f.rule.fin=6 then x.later s 4
 else
  let seen:=if f.rule.fin=2 then(f.stripe,f.lock.ver) else(0,0)
  let word:=if f.rule.fin=2 then f.word else 0
  let r:=rdAdd x.reads seen;let x:={ x with reads:=r.2 }
  if r.1=0 then { x with v:=(x.v.know x.v.need word).2 }.work s
  else if r.1=14 then x.out 5 0 (-1)
  else x.out 4 r.1 (-1)
def PAt.ended (x:PAt)(s:PSt):PAt :=
 match x.inner with
 | .none=>x
 | .fetch f=>x.fetched s f
 | .extend e =>
  let x:={ x with stamp:=if e.rule.fin=2 then e.stamp else 0 }
  if x.state=4 then x.ask s x.v.need else x.out 3 0 (-1)
 | .commit c=>x.out c.rule.fin c.rule.err (-1)
def PAt.writing (x:PAt):Bool :=
 x.state != 8&&(match x.inner with | .commit c=>c.isWriting||c.rule.fin==2|_=>false)
def PAt.told (x:PAt)(s:PSt):PAt :=
 let y:=if x.inner.rule.fin=0 then x else if x.inner.rule.fin=5 then x.out 5 0 x.inner.rule.by_ else x.ended s
 if y.writing then { y with stamp:=match y.inner with | .commit c=>c.stampOf|_=>0 } else y
def PAt.tell (x:PAt)(s:PSt)(a:PAns):PAt :=
 if x.state=8 then x
 else if a.err≠0 then { x.out 4 a.err (-1) with state:=8 }
 else match x.state with
 |0=>{ x with state:=1 }
 |1=>{ x with begun:=true,begin:=a.word,stamp:=a.word,state:=2 }
 |2=>x.work s
 |7=>{ x with state:=8 }
 |_=>{ x with inner:=x.inner.tell a }.told s
def PAt.finOf (x:PAt):Nat:=if x.state≠8 then 0 else x.fin
def PAt.errOf (x:PAt):Nat:=if x.state≠8 then 0 else x.err
def PAt.byOf (x:PAt):Int:=if x.state≠8 then -1 else x.by_
def PAt.committed (x:PAt):Bool:=x.finOf==2||x.writing
def PAt.cells (x:PAt):List (Nat×Nat):=if x.committed then x.v.logs.cells else []
def PAt.slate (x:PAt):List UInt8:=if x.committed then textI x.run.out else []
def PAt.blockingOf (x:PAt):Bool:=x.state != 8&&x.blocking
structure PTo where
 thread:Nat
 job:Nat
 try_:Nat
 kind:Nat
 err:Nat
 begin:Nat
 stamp:Nat
 born:Nat
 ended:Nat
 reads:List (Nat×Nat)
 cells:List (Nat×Nat)
 slate:List UInt8
structure PRe where
 kind:Nat
 err:Nat
 slate:List UInt8
 stamp:Nat
structure PTh where
 me:Nat
 jobs:List (List PIns)
 job:Nat
 state:Nat
 tries:Nat
 conflicts:Nat
 now:Option PAt
 born:Nat
 alarmed:Bool
 past:List PTo
 results:List PRe
 by_:Nat
 since:Nat
 yielding:Bool
 pauses:Int
def PTh.again (t:PTh)(s:PSt):PTh :=
 let t:={ t with born:=0,alarmed:=false }
 if t.job=t.jobs.length then { t with state:=6,now:=none }
 else { t with now:=some (PAt.new t.me s (t.jobs.getD t.job [])),state:=1 }
def PTh.following (t:PTh)(s:PSt):PTh:={ t with job:=t.job+1,tries:=0,conflicts:=0 }.again s
def PTh.new (me:Nat)(s:PSt)(jobs:List (List PIns)):PTh :=
 PTh.again { me:=me,jobs:=jobs.take 6,job:=0,state:=0,tries:=0,conflicts:=0,now:=none,born:=0,alarmed:=false,past:=[],results:=[],by_:=0,since:=0,yielding:=false,pauses:=0 } s
def PTh.next (t:PTh):POp×Bool :=
 match t.state with
 |1=>match t.now with|some x=>x.next|none=>(POp.zero,false)
 |2=>(POp.at' 8 t.by_,true)
 |_=>(POp.zero,false)
def mostPause:Nat→Nat
 |0=>1
 |n+1=>min (2*mostPause n) 8
def PTh.pause (t:PTh)(s:PSt)(draw:Nat):PTh :=
 let p:=draw%(mostPause (min t.conflicts 8)+1);let t:={ t with pauses:=p,state:=3 }
 if p=0 then t.again s else t
def PAt.toldOf (x:PAt)(t:PTh)(pick:Nat):PTo :=
 ⟨t.me,t.job,t.tries,if x.writing then 2 else x.finOf,x.errOf,x.begin,x.stamp,t.born,pick,x.v.known,x.cells,x.slate⟩
def PTh.ended (t:PTh)(s:PSt)(x:PAt)(draw pick:Nat):PTh :=
 let t:={ t with past:=t.past++[x.toldOf t pick],tries:=t.tries+1 }
 if x.finOf=5 then
  let t:={ t with conflicts:=t.conflicts+1 }
  if 0≤x.byOf∧x.byOf<s.threads then { t with state:=2,by_:=x.byOf.toNat,yielding:=false }
  else t.pause s draw
 else if x.finOf=3 then
  if t.alarmed then t.again s else { t with state:=4 }
 else { t with results:=t.results++[(⟨x.finOf,x.errOf,x.slate,x.stamp⟩:PRe)] }.following s
def PTh.yield_ (t:PTh)(s:PSt)(a:PAns)(draw:Nat):PTh :=
 if a.err=0∧a.word≠0∧(t.yielding=false∨a.word=t.since) then { t with yielding:=true,since:=a.word }
 else t.pause s draw
def PTh.tell (t:PTh)(s:PSt)(a:PAns)(draw pick:Nat):PTh :=
 match t.state with
 |1=>match t.now with
  |none=>t
  |some x =>
   let y:=x.tell s a;let t:={ t with now:=some y,born:=if y.begun&&!x.begun then pick else t.born }
   if y.finOf≠0 then t.ended s y draw pick else t
 |2=>t.yield_ s a draw
 |_=>t
def PTh.pauseOne (t:PTh)(s:PSt):PTh :=
 if t.state≠3 then t else
 let t:={ t with pauses:=t.pauses-1 }
 if t.pauses=0 then t.again s else t
def PTh.wake (t:PTh)(s:PSt)(stripe ver:Nat):PTh :=
 match t.now with
 |none=>t
 |some x =>
  if x.reads.any (fun r=>r.1==stripe&&r.2 != ver) then
   if t.state=4 then t.again s
   else if t.state=1∧x.blockingOf then { t with alarmed:=true } else t
  else t
def PTh.attempts (t:PTh):List PTo :=
 t.past++(if t.state=1 then match t.now with|some x=>if x.begun then [x.toldOf t 0] else []|none=>[] else [])
structure PMc where
 s:PSt
 mem:PMm
 thr:List PTh
 picks:Nat
 last:POp
 did:Bool
def freshW (n:Nat):List Nat:=(List.replicate (max 32 (min n 256)) 0).set 5 14
def PMc.new (s:PSt)(jobs:List (List (List PIns))):PMc :=
 let jobs:=jobs.take 4;let s:={ s with threads:=jobs.length }.held
 ⟨s,⟨freshW s.words,List.replicate s.stripes PLk.zero,s.start,List.replicate s.threads 0,1⟩,
  (List.range s.threads).map (fun i=>PTh.new i s (jobs.getD i [])),0,POp.zero,false⟩
def PMc.pick (m:PMc)(i draw:Nat):PMc :=
 match m.thr[i]? with
 |none=>m
 |some t =>
  let m:={ m with picks:=m.picks+1,last:=t.next.1,did:=t.next.2 }
  if m.did=false then { m with thr:=m.thr.set i (t.pauseOne m.s) }
  else
   let r:=doC m.mem m.last;let m:={ m with mem:=r.2,thr:=m.thr.set i (t.tell m.s r.1 draw m.picks) }
   if m.last.kind≠5 then m
   else { m with thr:=m.thr.mapIdx fun k o=>if k=i then o else o.wake m.s m.last.at_ m.last.lock.ver }
def PMc.attempts (m:PMc):List PTo:=m.thr.flatMap PTh.attempts
def PMc.rests (m:PMc):Bool:=m.thr.all fun t=>t.state==6||t.state==4
structure PCo.small (c:PCo):Prop where
 seen:c.seen.length≤1000
 cells:c.cells.length≤1000
 stripes:c.stripes.length≤1000
 was:c.was.length≤1000
 now:c.now≤4611686018427387904
structure PCo.ok (c:PCo):Prop where
 state:c.state≤7
 take:c.rule.fin=0→c.state≤1→c.was.length<c.stripes.length
 seen:c.rule.fin=0→c.state=4→c.at_<c.seen.length
 cells:c.rule.fin=0→c.state=5→c.at_<c.cells.length
 give:c.rule.fin=0→c.state=6→c.at_<c.stripes.length
 leave:c.rule.fin=0→c.state=7→c.at_<c.was.length
 was:c.was.length≤c.stripes.length
structure PCo.wf (c:PCo):Prop where
 small:c.small
 ok:c.ok
 pos:0<c.stripes.length
 sorted:c.stripes.Pairwise (· < ·)
 full:c.rule.fin=0→2≤c.state→c.state≤4→c.was.length=c.stripes.length
 at_:c.at_≤1000
structure PLv.ok (l:PLv):Prop where
 some_:l.rows≠[]
 few:l.rows.length≤6
 most:l.most≤96
 rows:∀r∈l.rows,r.length≤96∧∀x∈r,x.1≤1000000
structure PVw.ok (v:PVw):Prop where
 logs:v.logs.ok
 facts:v.facts.length≤256
 order:v.order.length≤v.facts.length
 places:∀p∈v.order,p<v.facts.length
section
def inV (n:Nat):List Value:=[.int .i64 n]
def vI (l:List Nat):List Value:=l.flatMap inV
def coRows (c:PCo)(D:CoD):HP:=row 148 2 (.slice D.sA c.seen.length D.sC) c.seen.length (vS c.seen)*(row 54 2 (.slice D.cA c.cells.length D.cC) c.cells.length (vS c.cells)*(row 3 1 (.slice D.tA c.stripes.length D.tC) c.stripes.length (vI c.stripes)*row 93 3 (.slice D.wA c.was.length D.wC) c.was.length (vL c.was)))
def coHA (b:Nat)(c:PCo)(D:CoD):HP:=coB b c D*coRows c D
def coH (b:Nat)(c:PCo):HP:=ex fun D=>coHA b c D
section
variable {ω w : World} {F : HP} {b : Nat} {c : PCo} {D : CoD}
theorem Sat.coOf (h:Sat ω w (coHA b c D*F)):Sat ω w (coB b c D*(coRows c D*F)):=h.assoc
theorem Sat.coTo (h:Sat ω w (coB b c D*(coRows c D*F))):Sat ω w (coH b c*F):=Sat.to_ex D h.assoc'
theorem Sat.coSeen (h:Sat ω w (coRows c D*F)){i:Nat}(hi:i<c.seen.length):∃g,D.sA=some ⟨g,0,none⟩∧g<w.heap.size∧∀j,j<2→w.cell? ⟨g,i*2+j,none⟩=(seV (c.seen.getD i (0,0)))[j]? :=
 (h.left.perm (star_emp _).symm).assoc.rowAt (f:=seV) (fun _=>rfl) (0,0) hi
theorem Sat.coCells (h:Sat ω w (coRows c D*F)){i:Nat}(hi:i<c.cells.length):∃g,D.cA=some ⟨g,0,none⟩∧g<w.heap.size∧∀j,j<2→w.cell? ⟨g,i*2+j,none⟩=(seV (c.cells.getD i (0,0)))[j]? :=
 (h.left.perm (star_emp _).symm).assoc.right.assoc.rowAt (f:=seV) (fun _=>rfl) (0,0) hi
theorem Sat.coStripes (h:Sat ω w (coRows c D*F)){i:Nat}(hi:i<c.stripes.length):∃g,D.tA=some ⟨g,0,none⟩∧g<w.heap.size∧w.cell? ⟨g,i,none⟩=some (.int .i64 ((c.stripes.getD i 0:Nat):Int)):=by
 obtain⟨g,h1,h2,h3⟩:=(h.left.perm (star_emp _).symm).assoc.right.assoc.right.assoc.rowAt (f:=inV) (fun _=>rfl) 0 hi
 exact⟨g,h1,h2,by have:=h3 0 (by omega);simpa [inV] using this⟩
theorem Sat.coWas (h:Sat ω w (coRows c D*F)){i:Nat}(hi:i<c.was.length):∃g,D.wA=some ⟨g,0,none⟩∧g<w.heap.size∧∀j,j<3→w.cell? ⟨g,i*3+j,none⟩=(lkV (c.was.getD i PLk.zero))[j]? :=
 (h.left.perm (star_emp _).symm).assoc.right.assoc.right.assoc.right.rowAt (f:=lkV) (fun _=>rfl) PLk.zero hi
end
def NextPost (w:World)(r:POp×Bool)(e:Ending)(w':World):Prop:=e=.returned (.tuple #[opA r.1,.bool r.2])∧Only Nob w w'
theorem co_next0 (ω w:World)(F:HP)(b:Nat)(c:PCo)(D:CoD)(h:Sat ω w (coB b c D*(coRows c D*F)))(hs:c.small)(hok:c.ok)(hf:c.rule.fin=0)(hst:c.state=0):
  Calls Tryz.prog 399 #[.pointer (some ⟨b,0,none⟩)] w (NextPost w c.next):=by
 have HE:Hid (c.next=(POp.at' 3 (c.stripes.getD c.was.length 0),true)):=h_ (by unfold PCo.next;rw[if_neg (by simpa using hf),hst];rfl)
 rw[HE.o];have lt:=h.blk.lt;have c2:w.cell? ⟨b,2,none⟩=some (.int .i64 ((0:Nat):Int)):=hf▸h.blk.cell 2;have c11:w.cell? ⟨b,11,none⟩=some (.int .i64 ((0:Nat):Int)):=hst▸h.blk.cell 11;have c9:=h.blk.c 9;have c10:=h.blk.c 10;have hlt:=hok.take hf (by omega)
 obtain⟨gt,hA,hgt,ht⟩:=h.right.coStripes (i:=c.was.length) hlt;rw[hA] at c9;have g1:=hs.seen;have g2:=hs.cells;have g3:=hs.stripes;have g4:=hs.was;have g5:=hs.now;generalize c.stripes.getD c.was.length 0=s at *
 generalize c.stripes.length=n at *
 generalize c.was.length=m at *
 clear h hs hok hf hst HE;go_enter Tryz.func399,Tryz.ntmps399;go_wp2;refine rT 12 ?_;simp only[sD,sE,sF,sG];repeat still_step
 refine wpStill_nil ?_;go_wp2;refine bodyPost_ret (v:=.tuple #[opA (POp.at' 3 (s)),.bool true]) (by simp[results,Tryz.results399,go_sem,opA,POp.at',POp.zero,PLk.zero, *]) rfl ⟨rfl,?_⟩
 repeat' (first|(with_reducible first|refine Only.setCell ?_ ?_ _|refine Only.alloc ?_ _|refine Only.drewN ?_ _|refine Only.drew ?_|exact Only.refl _ _)|(right;simp;done)|(right;simp;omega))
theorem co_next1 (ω w:World)(F:HP)(b:Nat)(c:PCo)(D:CoD)(h:Sat ω w (coB b c D*(coRows c D*F)))(hs:c.small)(hok:c.ok)(hf:c.rule.fin=0)(hst:c.state=1):
  Calls Tryz.prog 399 #[.pointer (some ⟨b,0,none⟩)] w (NextPost w c.next):=by
 have HE:Hid (c.next=({ POp.at' 4 (c.stripes.getD c.was.length 0) with was:=c.lock,lock:=⟨c.lock.ver,true,c.me⟩ },true)):=h_ (by unfold PCo.next;rw[if_neg (by simpa using hf),hst];rfl)
 rw[HE.o];have lt:=h.blk.lt;have c2:w.cell? ⟨b,2,none⟩=some (.int .i64 ((0:Nat):Int)):=hf▸h.blk.cell 2;have c11:w.cell? ⟨b,11,none⟩=some (.int .i64 ((1:Nat):Int)):=hst▸h.blk.cell 11;have c9:=h.blk.c 9;have c10:=h.blk.c 10;have c13:=h.blk.c 13;have c14:=h.blk.c 14;have c15:=h.blk.c 15;have c5:=h.blk.c 5;have hlt:=hok.take hf (by omega)
 obtain⟨gt,hA,hgt,ht⟩:=h.right.coStripes (i:=c.was.length) hlt;rw[hA] at c9;have g1:=hs.seen;have g2:=hs.cells;have g3:=hs.stripes;have g4:=hs.was;have g5:=hs.now;generalize c.stripes.getD c.was.length 0=s at *
 generalize c.stripes.length=n at *
 generalize c.was.length=m at *
 generalize c.lock=l at *
 generalize c.me=me at *
 clear h hs hok hf hst HE;go_enter Tryz.func399,Tryz.ntmps399;go_wp2;go_region;all_goals
  go_wp2;refine rT 16 ?_;simp only[sD,sE,sF,sG];repeat still_step
  refine wpStill_nil ?_;go_wp2
 all_goals
  refine bodyPost_ret (v:=.tuple #[opA ({ POp.at' 4 (s) with was:=l,lock:=⟨l.ver,true,me⟩ }),.bool true]) (by simp[results,Tryz.results399,go_sem,opA,POp.at',POp.zero,PLk.zero, *]) rfl ⟨rfl,?_⟩
  repeat' (first|(with_reducible first|refine Only.setCell ?_ ?_ _|refine Only.alloc ?_ _|refine Only.drewN ?_ _|refine Only.drew ?_|exact Only.refl _ _)|(right;simp;done)|(right;simp;omega))
theorem co_next2 (ω w:World)(F:HP)(b:Nat)(c:PCo)(D:CoD)(h:Sat ω w (coB b c D*(coRows c D*F)))(hs:c.small)(hok:c.ok)(hf:c.rule.fin=0)(hst:c.state=2):
  Calls Tryz.prog 399 #[.pointer (some ⟨b,0,none⟩)] w (NextPost w c.next):=by
 have HE:Hid (c.next=(POp.at' 6 0,true)):=h_ (by unfold PCo.next;rw[if_neg (by simpa using hf),hst];rfl)
 rw[HE.o];have lt:=h.blk.lt;have c2:w.cell? ⟨b,2,none⟩=some (.int .i64 ((0:Nat):Int)):=hf▸h.blk.cell 2;have c11:w.cell? ⟨b,11,none⟩=some (.int .i64 ((2:Nat):Int)):=hst▸h.blk.cell 11;have g1:=hs.seen;have g2:=hs.cells;have g3:=hs.stripes;have g4:=hs.was;have g5:=hs.now;clear h hs hok hf hst HE;go_enter Tryz.func399,Tryz.ntmps399;go_wp2;refine bodyPost_ret (v:=.tuple #[opA (POp.at' 6 0),.bool true]) (by simp[results,Tryz.results399,go_sem,opA,POp.at',POp.zero,PLk.zero, *]) rfl ⟨rfl,?_⟩
 repeat' (first|(with_reducible first|refine Only.setCell ?_ ?_ _|refine Only.alloc ?_ _|refine Only.drewN ?_ _|refine Only.drew ?_|exact Only.refl _ _)|(right;simp;done)|(right;simp;omega))
theorem co_next4 (ω w:World)(F:HP)(b:Nat)(c:PCo)(D:CoD)(h:Sat ω w (coB b c D*(coRows c D*F)))(hs:c.small)(hok:c.ok)(hf:c.rule.fin=0)(hst:c.state=4):
  Calls Tryz.prog 399 #[.pointer (some ⟨b,0,none⟩)] w (NextPost w c.next):=by
 have HE:Hid (c.next=(POp.at' 3 (c.seen.getD c.at_ (0,0)).1,true)):=h_ (by unfold PCo.next;rw[if_neg (by simpa using hf),hst];rfl)
 rw[HE.o];have lt:=h.blk.lt;have c2:w.cell? ⟨b,2,none⟩=some (.int .i64 ((0:Nat):Int)):=hf▸h.blk.cell 2;have c11:w.cell? ⟨b,11,none⟩=some (.int .i64 ((4:Nat):Int)):=hst▸h.blk.cell 11;have c7:=h.blk.c 7;have c12:=h.blk.c 12;have hlt:=hok.seen hf hst;obtain⟨gs,hA3,hgs,he⟩:=h.right.coSeen hlt;rw[hA3] at c7;have he0:w.cell? ⟨gs,c.at_*2,none⟩=some (.int .i64 ((c.seen.getD c.at_ (0,0)).1:Int)):=he 0 (by omega)
 clear he;have g1:=hs.seen;have g2:=hs.cells;have g3:=hs.stripes;have g4:=hs.was;have g5:=hs.now;generalize (c.seen.getD c.at_ (0,0)).1=s at *
 generalize c.seen.length=n at *
 generalize c.at_=m at *
 clear h hs hok hf hst HE;go_enter Tryz.func399,Tryz.ntmps399;go_wp2;refine rT 12 ?_;simp only[sD,sE,sF,sG];repeat still_step
 refine wpStill_nil ?_;go_wp2;refine bodyPost_ret (v:=.tuple #[opA (POp.at' 3 s),.bool true]) (by simp[results,Tryz.results399,go_sem,opA,POp.at',POp.zero,PLk.zero, *]) rfl ⟨rfl,?_⟩
 repeat' (first|(with_reducible first|refine Only.setCell ?_ ?_ _|refine Only.alloc ?_ _|refine Only.drewN ?_ _|refine Only.drew ?_|exact Only.refl _ _)|(right;simp;done)|(right;simp;omega))
theorem co_next5 (ω w:World)(F:HP)(b:Nat)(c:PCo)(D:CoD)(h:Sat ω w (coB b c D*(coRows c D*F)))(hs:c.small)(hok:c.ok)(hf:c.rule.fin=0)(hst:c.state=5):
  Calls Tryz.prog 399 #[.pointer (some ⟨b,0,none⟩)] w (NextPost w c.next):=by
 have HE:Hid (c.next=({ POp.at' 2 (c.cells.getD c.at_ (0,0)).1 with word:=(c.cells.getD c.at_ (0,0)).2 },true)):=h_ (by unfold PCo.next;rw[if_neg (by simpa using hf),hst];rfl)
 rw[HE.o];have lt:=h.blk.lt;have c2:w.cell? ⟨b,2,none⟩=some (.int .i64 ((0:Nat):Int)):=hf▸h.blk.cell 2;have c11:w.cell? ⟨b,11,none⟩=some (.int .i64 ((5:Nat):Int)):=hst▸h.blk.cell 11;have c8:=h.blk.c 8;have c12:=h.blk.c 12;have hlt:=hok.cells hf hst;obtain⟨gc,hA4,hgc,hc⟩:=h.right.coCells hlt;rw[hA4] at c8;have he0:w.cell? ⟨gc,c.at_*2,none⟩=some (.int .i64 ((c.cells.getD c.at_ (0,0)).1:Int)):=hc 0 (by omega)
 have he1:w.cell? ⟨gc,c.at_*2+1,none⟩=some (.int .u64 ((c.cells.getD c.at_ (0,0)).2:Int)):=hc 1 (by omega)
 clear hc;have g1:=hs.seen;have g2:=hs.cells;have g3:=hs.stripes;have g4:=hs.was;have g5:=hs.now;generalize (c.cells.getD c.at_ (0,0)).1=s at *
 generalize (c.cells.getD c.at_ (0,0)).2=v at *
 generalize c.cells.length=n at *
 generalize c.at_=m at *
 clear h hs hok hf hst HE;go_enter Tryz.func399,Tryz.ntmps399;go_wp2;refine rT 23 ?_;simp only[sD,sE,sF,sG];repeat still_step
 refine wpStill_nil ?_;go_wp2;refine bodyPost_ret (v:=.tuple #[opA ({ POp.at' 2 s with word:=v }),.bool true]) (by simp[results,Tryz.results399,go_sem,opA,POp.at',POp.zero,PLk.zero, *]) rfl ⟨rfl,?_⟩
 repeat' (first|(with_reducible first|refine Only.setCell ?_ ?_ _|refine Only.alloc ?_ _|refine Only.drewN ?_ _|refine Only.drew ?_|exact Only.refl _ _)|(right;simp;done)|(right;simp;omega))
theorem co_next7 (ω w:World)(F:HP)(b:Nat)(c:PCo)(D:CoD)(h:Sat ω w (coB b c D*(coRows c D*F)))(hs:c.small)(hok:c.ok)(hf:c.rule.fin=0)(hst:c.state=7):
  Calls Tryz.prog 399 #[.pointer (some ⟨b,0,none⟩)] w (NextPost w c.next):=by
 have HE:Hid (c.next=({ POp.at' 5 (c.stripes.getD c.at_ 0) with lock:=c.was.getD c.at_ PLk.zero },true)):=h_ (by unfold PCo.next;rw[if_neg (by simpa using hf),hst];rfl)
 rw[HE.o];have lt:=h.blk.lt;have c2:w.cell? ⟨b,2,none⟩=some (.int .i64 ((0:Nat):Int)):=hf▸h.blk.cell 2;have c11:w.cell? ⟨b,11,none⟩=some (.int .i64 ((7:Nat):Int)):=hst▸h.blk.cell 11;have c9:=h.blk.c 9;have c10:=h.blk.c 10;have c12:=h.blk.c 12;have hlt:=hok.leave hf hst;obtain⟨gt,hA,hgt,ht⟩:=h.right.coStripes (i:=c.at_) (Nat.lt_of_lt_of_le hlt hok.was);rw[hA] at c9;obtain⟨gw,hA2,hgw,hw⟩:=h.right.coWas hlt;rw[hA2] at c10;have hlt2:=Nat.lt_of_lt_of_le hlt hok.was;have he0:w.cell? ⟨gw,c.at_*3,none⟩=some (.int .u64 ((c.was.getD c.at_ PLk.zero).ver:Int)):=hw 0 (by omega)
 have he1:w.cell? ⟨gw,c.at_*3+1,none⟩=some (.bool (c.was.getD c.at_ PLk.zero).held):=hw 1 (by omega)
 have he2:w.cell? ⟨gw,c.at_*3+2,none⟩=some (.int .i64 ((c.was.getD c.at_ PLk.zero).own:Int)):=hw 2 (by omega)
 clear hw;have g1:=hs.seen;have g2:=hs.cells;have g3:=hs.stripes;have g4:=hs.was;have g5:=hs.now;generalize c.stripes.getD c.at_ 0=s at *
 generalize c.was.getD c.at_ PLk.zero=l at *
 generalize c.stripes.length=n at *
 generalize c.was.length=k at *
 generalize c.at_=m at *
 clear h hs hok hf hst HE;go_enter Tryz.func399,Tryz.ntmps399;go_wp2;refine rT 21 ?_;simp only[sD,sE,sF,sG];repeat still_step
 refine wpStill_nil ?_;go_wp2;refine bodyPost_ret (v:=.tuple #[opA ({ POp.at' 5 (s) with lock:=l }),.bool true]) (by simp[results,Tryz.results399,go_sem,opA,POp.at',POp.zero,PLk.zero, *]) rfl ⟨rfl,?_⟩
 repeat' (first|(with_reducible first|refine Only.setCell ?_ ?_ _|refine Only.alloc ?_ _|refine Only.drewN ?_ _|refine Only.drew ?_|exact Only.refl _ _)|(right;simp;done)|(right;simp;omega))
theorem co_next3 (ω w:World)(F:HP)(b:Nat)(c:PCo)(D:CoD)(h:Sat ω w (coB b c D*(coRows c D*F)))(hs:c.small)(hok:c.ok)(hf:c.rule.fin=0)(hst:c.state=3):
  Calls Tryz.prog 399 #[.pointer (some ⟨b,0,none⟩)] w (NextPost w c.next):=by
 have HE:Hid (c.next=({ POp.at' 7 0 with old:=c.now,word:=c.now+1 },true)):=h_ (by unfold PCo.next;rw[if_neg (by simpa using hf),hst];rfl)
 rw[HE.o];have lt:=h.blk.lt;have c2:w.cell? ⟨b,2,none⟩=some (.int .i64 ((0:Nat):Int)):=hf▸h.blk.cell 2;have c11:w.cell? ⟨b,11,none⟩=some (.int .i64 ((3:Nat):Int)):=hst▸h.blk.cell 11;obtain⟨N,hN⟩:∃N:Int,(c.now:Int)=N:=⟨_,rfl⟩;have hN1:N≤4611686018427387904:=by rw[←hN];have:=hs.now;omega
 have hN0:0≤N:=by omega
 have c16:w.cell? ⟨b,16,none⟩=some (.int .u64 N):=hN▸h.blk.cell 16;have g3:=hs.stripes;have HV:Hid (opA ({ POp.at' 7 0 with old:=c.now,word:=c.now+1 })=.agg #[.int .i64 7,.int .i64 0,.int .u64 N,.int .u64 (N+1),.int .u64 0,.bool false,.int .i64 0,.int .u64 0,.bool false,.int .i64 0]):=h_ (by rw[←hN];simp[opA,POp.at',POp.zero,PLk.zero])
 unfold NextPost;simp only;rw[HV.o];clear h hs hok hf hst HE hN HV;go_enter Tryz.func399,Tryz.ntmps399;go_wp2;refine rT 10 ?_;simp only[sD,sE,sF,sG];repeat still_step
 refine wpStill_nil ?_;go_wp2;refine bodyPost_ret (v:=.tuple #[.agg #[.int .i64 7,.int .i64 0,.int .u64 N,.int .u64 (N+1),.int .u64 0,.bool false,.int .i64 0,.int .u64 0,.bool false,.int .i64 0],.bool true]) (by simp[results,Tryz.results399,go_sem, *]) rfl ⟨rfl,?_⟩
 repeat' (first|(with_reducible first|refine Only.setCell ?_ ?_ _|refine Only.alloc ?_ _|refine Only.drewN ?_ _|refine Only.drew ?_|exact Only.refl _ _)|(right;simp;done)|(right;simp;omega))
theorem co_next6 (ω w:World)(F:HP)(b:Nat)(c:PCo)(D:CoD)(h:Sat ω w (coB b c D*(coRows c D*F)))(hs:c.small)(hok:c.ok)(hf:c.rule.fin=0)(hst:c.state=6):
  Calls Tryz.prog 399 #[.pointer (some ⟨b,0,none⟩)] w (NextPost w c.next):=by
 have HE:Hid (c.next=({ POp.at' 5 (c.stripes.getD c.at_ 0) with lock:=⟨c.now+1,false,0⟩ },true)):=h_ (by unfold PCo.next;rw[if_neg (by simpa using hf),hst];rfl)
 rw[HE.o];have lt:=h.blk.lt;have c2:w.cell? ⟨b,2,none⟩=some (.int .i64 ((0:Nat):Int)):=hf▸h.blk.cell 2;have c11:w.cell? ⟨b,11,none⟩=some (.int .i64 ((6:Nat):Int)):=hst▸h.blk.cell 11;obtain⟨N,hN⟩:∃N:Int,(c.now:Int)=N:=⟨_,rfl⟩;have hN1:N≤4611686018427387904:=by rw[←hN];have:=hs.now;omega
 have hN0:0≤N:=by omega
 have c16:w.cell? ⟨b,16,none⟩=some (.int .u64 N):=hN▸h.blk.cell 16;have c9:=h.blk.c 9;have c12:=h.blk.c 12;have hlt:=hok.give hf hst;obtain⟨gt,hA,hgt,ht⟩:=h.right.coStripes (i:=c.at_) hlt;rw[hA] at c9;have g3:=hs.stripes;generalize c.stripes.getD c.at_ 0=s at *
 generalize c.stripes.length=n at *
 generalize c.at_=m at *
 have HV:Hid (opA ({ POp.at' 5 (s) with lock:=⟨c.now+1,false,0⟩ })=.agg #[.int .i64 5,.int .i64 s,.int .u64 0,.int .u64 0,.int .u64 0,.bool false,.int .i64 0,.int .u64 (N+1),.bool false,.int .i64 0]):=h_ (by rw[←hN];simp[opA,POp.at',POp.zero,PLk.zero])
 unfold NextPost;simp only;rw[HV.o];clear h hs hok hf hst HE hN HV;go_enter Tryz.func399,Tryz.ntmps399;go_wp2;refine rT 17 ?_;simp only[sD,sE,sF,sG];repeat still_step
 refine wpStill_nil ?_;go_wp2;refine bodyPost_ret (v:=.tuple #[.agg #[.int .i64 5,.int .i64 s,.int .u64 0,.int .u64 0,.int .u64 0,.bool false,.int .i64 0,.int .u64 (N+1),.bool false,.int .i64 0],.bool true]) (by simp[results,Tryz.results399,go_sem, *]) rfl ⟨rfl,?_⟩
 repeat' (first|(with_reducible first|refine Only.setCell ?_ ?_ _|refine Only.alloc ?_ _|refine Only.drewN ?_ _|refine Only.drew ?_|exact Only.refl _ _)|(right;simp;done)|(right;simp;omega))
theorem co_next9 (ω w:World)(F:HP)(b:Nat)(c:PCo)(D:CoD)(h:Sat ω w (coB b c D*(coRows c D*F)))(hf:c.rule.fin≠0):
  Calls Tryz.prog 399 #[.pointer (some ⟨b,0,none⟩)] w (NextPost w c.next):=by
 have HE:Hid (c.next=(POp.zero,false)):=h_ (by unfold PCo.next;rw[if_pos hf])
 rw[HE.o];have lt:=h.blk.lt;have c2:=h.blk.c 2;have d:((c.rule.fin:Int) != 0)=true:=by simpa using hf
 clear h hf HE;go_enter Tryz.func399,Tryz.ntmps399;go_wp2;refine bodyPost_ret (v:=.tuple #[opA POp.zero,.bool false]) (by simp[results,Tryz.results399,go_sem,opA,POp.at',POp.zero,PLk.zero, *]) rfl ⟨rfl,?_⟩
 repeat' (first|(with_reducible first|refine Only.setCell ?_ ?_ _|refine Only.alloc ?_ _|refine Only.drewN ?_ _|refine Only.drew ?_|exact Only.refl _ _)|(right;simp;done)|(right;simp;omega))
theorem co_next (ω w:World)(F:HP)(b:Nat)(c:PCo)(h:Sat ω w (coH b c*F))(hs:c.small)(hok:c.ok):
  Calls Tryz.prog 399 #[.pointer (some ⟨b,0,none⟩)] w (NextPost w c.next):=by
 obtain⟨D,h⟩:=h.of_ex;by_cases hf:c.rule.fin=0
 ·have h7:=hok.state;rcases(by omega:c.state=0∨c.state=1∨c.state=2∨c.state=3∨c.state=4∨c.state=5∨c.state=6∨c.state=7) with k|k|k|k|k|k|k|k
  ·exact co_next0 ω w F b c D h.coOf hs hok hf k
  ·exact co_next1 ω w F b c D h.coOf hs hok hf k
  ·exact co_next2 ω w F b c D h.coOf hs hok hf k
  ·exact co_next3 ω w F b c D h.coOf hs hok hf k
  ·exact co_next4 ω w F b c D h.coOf hs hok hf k
  ·exact co_next5 ω w F b c D h.coOf hs hok hf k
  ·exact co_next6 ω w F b c D h.coOf hs hok hf k
  ·exact co_next7 ω w F b c D h.coOf hs hok hf k
 ·exact co_next9 ω w F b c D h.coOf hf
end
end Go.Proofs.YtfodmgaliclhfaaGreatDoor
