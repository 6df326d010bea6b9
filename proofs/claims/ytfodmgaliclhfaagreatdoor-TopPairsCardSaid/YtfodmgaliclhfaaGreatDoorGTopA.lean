/- Lemmas for TopPairs; no conditions. -/
import Derived.Test.YtfodmgaliclhfaaGreatDoorGCoNext
import Derived.Test.YtfodmgaliclhfaaGreatDoorGAtAll
import Derived.Test.YtfodmgaliclhfaaGreatDoorGMcAsk2
namespace Go.Proofs.YtfodmgaliclhfaaGreatDoor
set_option linter.unusedVariables false
set_option linter.unusedSimpArgs false
set_option maxRecDepth 100000
set_option maxHeartbeats 4000000
open Go.RowKit
namespace Prs
def pa (bk:Bool):Nat:=if bk then 12 else 7
def pb (bk:Bool):Nat:=if bk then 7 else 12
def codeR (bk:Bool):List PIns:=[⟨8,0,7,(pa bk:Nat),0⟩,⟨14,0,0,0,0⟩,⟨8,1,7,(pb bk:Nat),0⟩,⟨15,0,0,0,0⟩,⟨21,0,0,0,0⟩,⟨21,1,0,0,0⟩]
def codeW (n:Nat)(bk:Bool):List PIns:=[⟨1,0,0,0,(n:Nat)⟩,⟨9,7,0,(pa bk:Nat),0⟩,⟨9,7,0,(pb bk:Nat),0⟩]
theorem pa_or (bk:Bool):pa bk=7∨pa bk=12:=by cases bk<;>simp[pa]
theorem pb_or (bk:Bool):pb bk=7∨pb bk=12:=by cases bk<;>simp[pb]
theorem getF_nil (p:Nat):∀l:List PWr,(∀r∈l,r=[])→PLv.getF l p=none
 | [],_=>rfl
 |r::l,h=>by
  have h1:=h r List.mem_cons_self;subst h1;simp only[PLv.getF,wGet,wAt,List.findIdx?_nil,Option.map_none,Option.none_or];exact getF_nil p l fun r hr=>h r (List.mem_cons_of_mem _ hr)
theorem get_nil (l:PLv)(p:Nat)(h:∀r∈l.rows,r=[]):l.get p=none :=
 getF_nil p _ fun r hr=>h r (List.mem_reverse.1 hr)
theorem cells_nilF:∀l:List PWr,(∀r∈l,r=[])→l.foldl (fun out r=>(wTake 96 (wTake 96 [] r).2 out).2) []=[]
 | [],_=>rfl
 |r::l,h=>by
  have h1:=h r List.mem_cons_self;subst h1;exact cells_nilF l fun r hr=>h r (List.mem_cons_of_mem _ hr)
theorem cells_nil (l:PLv)(h:∀r∈l.rows,r=[]):l.cells=[] :=
 cells_nilF _ fun r hr=>h r (List.mem_reverse.1 hr)
theorem inmost_nil (l:PLv)(h:∀r∈l.rows,r=[]):l.inmost=[]:=by
 unfold PLv.inmost;rw[List.getLastD_eq_getLast?];cases e:l.rows.getLast? with
 |none=>rfl
 |some r=>exact h r (List.mem_of_getLast? e)
theorem open_nil (l:PLv)(h:∀r∈l.rows,r=[]):∀r∈l.open_.2.rows,r=[]:=by
 unfold PLv.open_;split
 ·exact h
 ·intro r hr;simp only[List.mem_append,List.mem_singleton] at hr;rcases hr with hr|hr
  ·exact h r hr
  ·exact hr
theorem drop_nil (l:PLv)(h:∀r∈l.rows,r=[]):∀r∈l.drop.2.rows,r=[]:=by
 unfold PLv.drop;split
 ·exact h
 ·intro r hr;exact h r (List.dropLast_subset _ hr)
theorem setIn_nil (l:PLv)(h:∀r∈l.rows,r=[]):∀r∈(l.setIn []).rows,r=[]:=by
 intro r hr;simp only[PLv.setIn,List.mem_append,List.mem_singleton] at hr;rcases hr with hr|hr
 ·exact h r (List.dropLast_subset _ hr)
 ·exact hr
theorem keep_nil (l:PLv)(h:∀r∈l.rows,r=[]):∀r∈l.keep.2.rows,r=[]:=by
 unfold PLv.keep;simp only;split
 ·exact drop_nil l h
 ·rw[inmost_nil l h,inmost_nil _ (drop_nil l h)];exact setIn_nil _ (drop_nil l h)
structure RdIt (bk:Bool) (x:PIt) (v:PVw):Prop where
 code:x.code=codeR bk
 regs:x.regs.length=8
 zero:x.regs.getD 7 0=0
 place:x.at_≤6
 fin:x.fin=0∨x.fin=2∨x.fin=4
 rows:∀r∈v.logs.rows,r=[]
 size:13≤v.facts.length
structure RdEx (bk:Bool) (x:PIt) (v:PVw) (e:Nat) (x':PIt) (v':PVw):Prop where
 code:x'.code=codeR bk
 regs:x'.regs.length=8
 zero:x'.regs.getD 7 0=0
 place:x'.at_=x.at_
 next:x'.next=x.next
 fin:x'.fin=x.fin
 rows:∀r∈v'.logs.rows,r=[]
 facts:v'.facts=v.facts
 order:v'.order=v.order
 need:e=11→(v'.need=7∨v'.need=12)∧v.facts.getD v'.need none=none
theorem setReg_get (x:PIt)(a:Int)(y:Nat)(ha:a=0∨a=1):(x.setReg a y).regs.getD 7 0=x.regs.getD 7 0:=by
 rcases ha with rfl|rfl<;>simp[PIt.setReg,gD]
theorem rd_load {bk:Bool}{x:PIt}{v:PVw}(hc:x.code=codeR bk)(hl:x.regs.length=8)(hz:x.regs.getD 7 0=0)(hr:∀r∈v.logs.rows,r=[])(hs:13≤v.facts.length)(a:Int)(ha:a=0∨a=1)(p:Nat)(hp:p=7∨p=12):
  RdEx bk x v (x.exec v ⟨8,a,7,(p:Nat),0⟩).1 (x.exec v ⟨8,a,7,(p:Nat),0⟩).2.1 (x.exec v ⟨8,a,7,(p:Nat),0⟩).2.2:=by
 have e1:x.reg 7=0:=hz;have e2:placeP 0 (p:Nat)=(p,0):=by rcases hp with rfl|rfl<;>decide
 have e3:v.is p=true:=by rcases hp with rfl|rfl<;>simp[PVw.is]<;>omega
 have e:x.exec v ⟨8,a,7,(p:Nat),0⟩=((v.read p).2.1,if(v.read p).2.1=0 then x.setReg a (v.read p).1 else x,(v.read p).2.2):=by
  show(let p':=placeP (x.reg 7) (p:Nat);if p'.2≠0 then _ else _)=_
  rw[e1,e2];simp
 rw[e];have e4:v.read p=match v.facts.getD p none with|some y=>(y,0,v)|none=>(0,11,{ v with need:=p }):=by
  unfold PVw.read;rw[if_neg (by simp[e3]),get_nil _ _ hr]
  cases v.facts.getD p none<;>rfl
 rw[e4];cases hf:v.facts.getD p none with
 |some y =>
  simp only[if_true];exact⟨hc,by simp[PIt.setReg,hl],by rw[setReg_get x a y ha];exact hz,rfl,rfl,rfl,hr,rfl,rfl,by simp⟩
 |none =>
  exact⟨hc,hl,hz,rfl,rfl,rfl,hr,rfl,rfl,fun _=>⟨hp,hf⟩⟩
theorem rd_open {bk:Bool}{x:PIt}{v:PVw}(hc:x.code=codeR bk)(hl:x.regs.length=8)(hz:x.regs.getD 7 0=0)(hr:∀r∈v.logs.rows,r=[]):
  RdEx bk x v (x.exec v ⟨14,0,0,0,0⟩).1 (x.exec v ⟨14,0,0,0,0⟩).2.1 (x.exec v ⟨14,0,0,0,0⟩).2.2:=by
 have e:x.exec v ⟨14,0,0,0,0⟩=x.begin v 14 x.at_:=rfl;rw[e];unfold PIt.begin PVw.open_;have h9:=open_nil v.logs hr;simp only;split
 ·rename_i h1;refine⟨hc,hl,hz,rfl,rfl,rfl,h9,rfl,rfl,fun h2=>?_⟩
  exfalso;unfold PLv.open_ at h2;split at h2<;>simp at h2
 ·exact⟨hc,hl,hz,rfl,rfl,rfl,h9,rfl,rfl,by simp⟩
theorem wTake_nil (w:PWr):wTake 96 w []=(0,w):=rfl
theorem rd_close {bk:Bool}{x:PIt}{v:PVw}(hc:x.code=codeR bk)(hl:x.regs.length=8)(hz:x.regs.getD 7 0=0)(hr:∀r∈v.logs.rows,r=[]):
  RdEx bk x v (x.exec v ⟨15,0,0,0,0⟩).1 (x.exec v ⟨15,0,0,0,0⟩).2.1 (x.exec v ⟨15,0,0,0,0⟩).2.2:=by
 have e:x.exec v ⟨15,0,0,0,0⟩=(v.keep.1,x.leave.2,v.keep.2):=rfl;rw[e];refine⟨hc,hl,hz,rfl,rfl,rfl,keep_nil v.logs hr,rfl,rfl,fun h2=>?_⟩
 exfalso;unfold PVw.keep PLv.keep at h2;rw[inmost_nil v.logs hr] at h2;unfold PLv.drop at h2;by_cases h1:v.logs.rows.length=1
 ·simp[h1] at h2
 ·simp[h1,wTake_nil] at h2
theorem rd_emit {bk:Bool}{x:PIt}{v:PVw}(hc:x.code=codeR bk)(hl:x.regs.length=8)(hz:x.regs.getD 7 0=0)(hr:∀r∈v.logs.rows,r=[])(a:Int):
  RdEx bk x v (x.exec v ⟨21,a,0,0,0⟩).1 (x.exec v ⟨21,a,0,0,0⟩).2.1 (x.exec v ⟨21,a,0,0,0⟩).2.2:=by
 have e:x.exec v ⟨21,a,0,0,0⟩=if 16≤x.out.length then(5,x,v) else(0,{ x with out:=x.out++[.num (x.reg a)] },v):=rfl
 rw[e];split
 ·exact⟨hc,hl,hz,rfl,rfl,rfl,hr,rfl,rfl,by simp⟩
 ·exact⟨hc,hl,hz,rfl,rfl,rfl,hr,rfl,rfl,by simp⟩
theorem rd_exec {bk:Bool}{x:PIt}{v:PVw}(hc:x.code=codeR bk)(hl:x.regs.length=8)(hz:x.regs.getD 7 0=0)(hr:∀r∈v.logs.rows,r=[])(hs:13≤v.facts.length)(k:Nat)(hk:k<6):
  RdEx bk x v (x.exec v ((codeR bk).getD k PIns.none)).1 (x.exec v ((codeR bk).getD k PIns.none)).2.1 (x.exec v ((codeR bk).getD k PIns.none)).2.2:=by
 match k,hk with
 |0,_=>exact rd_load hc hl hz hr hs 0 (.inl rfl) (pa bk) (pa_or bk)
 |1,_=>exact rd_open hc hl hz hr
 |2,_=>exact rd_load hc hl hz hr hs 1 (.inr rfl) (pb bk) (pb_or bk)
 |3,_=>exact rd_close hc hl hz hr
 |4,_=>exact rd_emit hc hl hz hr 0
 |5,_=>exact rd_emit hc hl hz hr 1
 |k+6,h=>omega
structure RdRun (bk:Bool) (v:PVw) (r:Nat×PIt×PVw):Prop where
 it:RdIt bk r.2.1 r.2.2
 facts:r.2.2.facts=v.facts
 order:r.2.2.order=v.order
 need:r.1=1→(r.2.2.need=7∨r.2.2.need=12)∧v.facts.getD r.2.2.need none=none
 no3:r.1≠3
theorem rd_runF {bk:Bool}:∀(n:Nat) (x:PIt) (v:PVw),RdIt bk x v→RdRun bk v (PIt.runF n x v)
 |0,x,v,h=>⟨h,rfl,rfl,fun e=>by have:=h.fin;unfold PIt.runF at e;simp only at e;omega,fun e=>by have:=h.fin;unfold PIt.runF at e;simp only at e;omega⟩
 |n+1,x,v,h=>by
  unfold PIt.runF;have hf:=h.fin;by_cases h1:x.fin≠0
  ·rw[if_pos h1];exact⟨h,rfl,rfl,fun e=>by simp only at e;omega,fun e=>by simp only at e;omega⟩
  rw[if_neg h1];by_cases h2:x.at_=x.code.length
  ·rw[if_pos h2];exact⟨⟨h.code,h.regs,h.zero,h.place,.inr (.inl rfl),h.rows,h.size⟩,rfl,rfl,by simp,by simp⟩
  rw[if_neg h2];by_cases h3:x.left=0
  ·rw[if_pos h3];exact⟨⟨h.code,h.regs,h.zero,h.place,.inr (.inr rfl),h.rows,h.size⟩,rfl,rfl,by simp,by simp⟩
  rw[if_neg h3];have hk:x.at_<6:=by
   have h4:=h.place;have h5:x.code.length=6:=by rw[h.code];rfl
   omega
  have hx:=rd_exec (bk:=bk) (x:={ x with next:=x.at_+1 }) (v:=v) h.code h.regs h.zero h.rows h.size x.at_ hk
  rw[←h.code] at hx;generalize PIt.exec { x with next:=x.at_+1 } v (x.code.getD x.at_ PIns.none)=r at hx
  obtain⟨e,x',v'⟩:=r;simp only at hx ⊢;have hs':13≤v'.facts.length:=by rw[hx.facts];exact h.size
  have hfin:x'.fin=0:=by rw[hx.fin];show x.fin=0;omega
  by_cases h4:e=0
  ·rw[if_pos h4];have h5:=rd_runF n { x' with at_:=x'.next,left:=x'.left-1 } v' ⟨hx.code,hx.regs,hx.zero,by rw[hx.next];exact hk,.inl hfin,hx.rows,hs'⟩
   refine⟨h5.it,h5.facts.trans hx.facts,h5.order.trans hx.order,fun e9=>?_,h5.no3⟩
   have:=h5.need e9
   rw[hx.facts] at this;exact this
  rw[if_neg h4];have hp':x'.at_≤6:=by rw[hx.place];exact h.place
  by_cases h5:e=11
  ·rw[if_pos h5];exact⟨⟨hx.code,hx.regs,hx.zero,hp',.inl hfin,hx.rows,hs'⟩,hx.facts,hx.order,fun _=>hx.need h5,by simp⟩
  rw[if_neg h5];exact⟨⟨hx.code,hx.regs,hx.zero,hp',.inr (.inr rfl),hx.rows,hs'⟩,hx.facts,hx.order,by simp,by simp⟩
structure WrIt (n:Nat) (bk:Bool) (x:PIt) (v:PVw):Prop where
 code:x.code=codeW n bk
 regs:x.regs.length=8
 zero:x.regs.getD 7 0=0
 place:x.at_≤3
 fin:x.fin=0
 one:1≤x.at_→x.regs.getD 0 0=n
 rows:v.logs.rows=[[(pa bk,n),(pb bk,n)].take (x.at_-1)]
 size:13≤v.facts.length
structure WrRun (n:Nat) (bk:Bool) (v:PVw) (r:Nat×PIt×PVw):Prop where
 order:r.2.2.order=v.order
 fin:r.1=2∧r.2.2.logs.rows=[[(pa bk,n),(pb bk,n)]]∨r.1=4
theorem wr_put {v:PVw}{p n:Nat}(hp:p=7∨p=12){w:PWr}(hr:v.logs.rows=[w])(hw:w.length<96)(hn:wGet w p=none)(hs:13≤v.facts.length):
  (v.write p n).2.order=v.order∧(v.write p n).2.facts=v.facts∧((v.write p n).1=5∨(v.write p n).1=0∧(v.write p n).2.logs.rows=[w++[(p,n)]]):=by
 have e3:v.is p=true:=by rcases hp with rfl|rfl<;>simp[PVw.is]<;>omega
 refine⟨?_,?_,?_⟩
 ·unfold PVw.write;split<;>rfl
 ·unfold PVw.write;split<;>rfl
 ·unfold PVw.write;rw[if_neg (by simp[e3])]
  simp only;unfold PLv.put;rw[if_neg (by omega)]
  have hi:v.logs.inmost=w:=by unfold PLv.inmost;rw[hr];rfl
  split
  ·exact .inl rfl
  ·right;have e4:wPut 96 v.logs.inmost p n=(0,w++[(p,n)]):=by
    unfold wPut;rw[if_neg (by omega),hi]
    unfold wGet at hn;rw[Option.map_eq_none_iff.1 hn];simp only;rw[if_neg (by omega)]
   simp only[e4];refine⟨trivial,?_⟩;simp[PLv.setIn,hr]
theorem wr_store {x:PIt}{v:PVw}(hz:x.regs.getD 7 0=0){n:Nat}(hn:x.regs.getD 0 0=n)(p:Nat)(hp:p=7∨p=12):x.exec v ⟨9,7,0,(p:Nat),0⟩=((v.write p n).1,x,(v.write p n).2):=by
 have e1:x.reg 7=0:=hz;have e2:x.reg 0=n:=hn;have e3:placeP 0 (p:Nat)=(p,0):=by rcases hp with rfl|rfl<;>decide
 have e:x.exec v ⟨9,7,0,(p:Nat),0⟩=if(placeP (x.reg 7) (p:Nat)).2≠0 then((placeP (x.reg 7) (p:Nat)).2,x,v) else((v.write (placeP (x.reg 7) (p:Nat)).1 (x.reg 0)).1,x,(v.write (placeP (x.reg 7) (p:Nat)).1 (x.reg 0)).2):=rfl
 rw[e,e1,e2,e3];simp
theorem wr_runF {n:Nat}{bk:Bool}:∀(f:Nat) (x:PIt) (v:PVw),WrIt n bk x v→x.left<f→WrRun n bk v (PIt.runF f x v)
 |0,x,v,h,hf=>by omega
 |f+1,x,v,h,hf=>by
  unfold PIt.runF;rw[if_neg (by simp[h.fin])]
  have hlen:x.code.length=3:=by rw[h.code];rfl
  by_cases h2:x.at_=x.code.length
  ·rw[if_pos h2];have h9:=h.rows;rw[h2,hlen] at h9;exact⟨rfl,.inl ⟨rfl,h9⟩⟩
  rw[if_neg h2];by_cases h3:x.left=0
  ·rw[if_pos h3];exact⟨rfl,.inr rfl⟩
  rw[if_neg h3];have hk:x.at_<3:=by have:=h.place;omega
  have hone:=h.one;have hrows:=h.rows;have store:∀p,(p=7∨p=12)→1≤x.at_→x.code.getD x.at_ PIns.none=⟨9,7,0,(p:Nat),0⟩→wGet ([(pa bk,n),(pb bk,n)].take (x.at_-1)) p=none→[(pa bk,n),(pb bk,n)].take (x.at_-1)++[(p,n)]=[(pa bk,n),(pb bk,n)].take x.at_→WrRun n bk v (let r:=PIt.exec { x with next:=x.at_+1 } v (x.code.getD x.at_ PIns.none);if r.1=0 then PIt.runF f { r.2.1 with at_:=r.2.1.next,left:=r.2.1.left-1 } r.2.2 else if r.1=11 then(1,r.2.1,r.2.2) else(4,{ r.2.1 with fin:=4,err:=r.1 },r.2.2)):=by
   intro p hp h1 e0 hg ht;rw[e0,wr_store (x:={ x with next:=x.at_+1 }) h.zero (hone h1) p hp]
   obtain⟨q1,q2,q3⟩:=wr_put (n:=n) hp hrows (by rw[List.length_take];simp;omega) hg h.size
   generalize v.write p n=r at q1 q2 q3 ⊢;obtain⟨e9,v'⟩:=r;simp only at q1 q2 q3 ⊢;rcases q3 with q3|⟨q3,q4⟩
   ·subst q3;exact⟨q1,.inr rfl⟩
   ·subst q3;simp only[if_true];have h9:=wr_runF f { x with next:=x.at_+1,at_:=x.at_+1,left:=x.left-1 } v' ⟨h.code,h.regs,h.zero,hk,h.fin,fun _=>hone h1,by rw[q4,ht];rfl,by rw[q2];exact h.size⟩ (by simp only;omega)
    exact⟨h9.order.trans q1,h9.fin⟩
  rcases(by omega:x.at_=0∨x.at_=1∨x.at_=2) with h0|h0|h0
  ·have e0:x.code.getD x.at_ PIns.none=⟨1,0,0,0,(n:Nat)⟩:=by rw[h.code,h0];rfl
   have e:PIt.exec { x with next:=x.at_+1 } v ⟨1,0,0,0,(n:Nat)⟩=(0,PIt.setReg { x with next:=x.at_+1 } 0 n,v):=rfl
   rw[e0,e];simp only[if_true];refine wr_runF f _ v ⟨h.code,by simp[PIt.setReg,h.regs],?_,by simp[PIt.setReg];omega,h.fin,fun _=>?_,?_,h.size⟩ (by simp only[PIt.setReg];omega)
   ·exact(setReg_get { x with next:=x.at_+1 } 0 n (.inl rfl)).trans h.zero
   ·have:=h.regs
    show(x.regs.set 0 n).getD 0 0=n
    rw[gD,List.getElem?_set_self (by omega)];rfl
   ·rw[hrows,h0];rfl
  ·exact store (pa bk) (pa_or bk) (by omega) (by rw[h.code,h0];rfl) (by rw[h0];rfl) (by rw[h0];rfl)
  ·exact store (pb bk) (pb_or bk) (by omega) (by rw[h.code,h0];rfl) (by rw[h0];cases bk<;>rfl) (by rw[h0];rfl)
theorem wr_cells (n:Nat)(bk:Bool)(l:PLv)(h:l.rows=[[(pa bk,n),(pb bk,n)]]):l.cells=[(pa bk,n),(pb bk,n)]:=by
 unfold PLv.cells;rw[h];cases bk<;>rfl
end Prs
section
namespace Prs
def verOf (st k:Nat):Nat:=if k≤st then 0 else k
def valOf (st:Nat)(H:List Nat)(k:Nat):Nat:=if k≤st then 0 else H.getD (k-st-1) 0
theorem verOf_inj {st a b:Nat}(ha:st≤a)(hb:st≤b)(h:verOf st a=verOf st b):a=b:=by
 unfold verOf at h;split at h<;>split at h<;>omega
theorem verOf_le {st a b:Nat}(ha:st≤a)(hb:st≤b)(hab:b≤a)(h:verOf st a≤b):a=b:=by
 unfold verOf at h;split at h<;>omega
theorem valOf_app {st:Nat}{H:List Nat}{n k:Nat}(h:k≤st+H.length):valOf st (H++[n]) k=valOf st H k:=by
 unfold valOf;split
 ·rfl
 ·rw[gD,gD,List.getElem?_append_left (by omega)]
theorem valOf_last {st:Nat}{H:List Nat}{n k:Nat}(h:k=st+H.length+1):valOf st (H++[n]) k=n:=by
 unfold valOf;rw[if_neg (by omega),gD,List.getElem?_append_right (by omega),show k-st-1-H.length=0 by omega]
 rfl
def sOf (s:PSt)(p:Nat):Nat:=stripeOf p s.stripes s.wide
def rowOf (s:PSt)(bk:Bool):List Nat:=if sOf s (pb bk)<sOf s (pa bk) then [sOf s (pb bk),sOf s (pa bk)] else if sOf s (pb bk)=sOf s (pa bk) then [sOf s (pa bk)] else [sOf s (pa bk),sOf s (pb bk)]
theorem rowOf_eq (s:PSt)(n:Nat)(bk:Bool):stripesOf [(pa bk,n),(pb bk,n)] s.stripes s.wide=rowOf s bk:=by
 unfold rowOf;simp only[stripesOf,List.foldl_cons,List.foldl_nil,insUp,sOf];rfl
theorem rowOf_has (s:PSt)(bk:Bool)(p:Nat)(hp:p=7∨p=12):∃j,j<(rowOf s bk).length∧(rowOf s bk).getD j 0=sOf s p:=by
 have h:p=pa bk∨p=pb bk:=by rcases hp with rfl|rfl<;>cases bk<;>simp[pa,pb]
 unfold rowOf;by_cases h1:sOf s (pb bk)<sOf s (pa bk)
 ·rw[if_pos h1];rcases h with rfl|rfl
  ·exact⟨1,by simp,rfl⟩
  ·exact⟨0,by simp,rfl⟩
 ·rw[if_neg h1];by_cases h2:sOf s (pb bk)=sOf s (pa bk)
  ·rw[if_pos h2];rcases h with rfl|rfl
   ·exact⟨0,by simp,rfl⟩
   ·exact⟨0,by simp,by rw[h2];rfl⟩
  ·rw[if_neg h2];rcases h with rfl|rfl
   ·exact⟨0,by simp,rfl⟩
   ·exact⟨1,by simp,rfl⟩
theorem rowOf_is (s:PSt)(bk:Bool)(j:Nat)(hj:j<(rowOf s bk).length):∃p,(p=7∨p=12)∧(rowOf s bk).getD j 0=sOf s p:=by
 have key:∀x∈rowOf s bk,∃p,(p=7∨p=12)∧x=sOf s p:=by
  intro x hx
  have:x=sOf s (pa bk)∨x=sOf s (pb bk):=by
   unfold rowOf at hx;split at hx
   ·simp at hx;omega
   ·split at hx
    ·simp at hx;omega
    ·simp at hx;omega
  rcases this with h|h
  ·exact⟨_,pa_or bk,h⟩
  ·exact⟨_,pb_or bk,h⟩
 apply key;rw[gD,List.getElem?_eq_getElem hj];exact List.getElem_mem _
theorem rowOf_inj (s:PSt)(bk:Bool)(j k:Nat)(hj:j<(rowOf s bk).length)(hk:k<(rowOf s bk).length)(h:(rowOf s bk).getD j 0=(rowOf s bk).getD k 0):j=k:=by
 have hn:(rowOf s bk).Nodup:=by
  unfold rowOf;split
  ·simp;omega
  ·split
   ·simp
   ·simp;omega
 rw[gD,gD,List.getElem?_eq_getElem hj,List.getElem?_eq_getElem hk] at h;exact(List.getElem_inj hn).1 (by simpa using h)
theorem rowOf_pos (s:PSt)(bk:Bool):0<(rowOf s bk).length:=by
 unfold rowOf;split
 ·simp
 ·split<;>simp
theorem sOf_lt (s:PSt)(p:Nat)(h:0<s.stripes):sOf s p<s.stripes:=Nat.mod_lt _ h
structure CoOk (s:PSt) (me n:Nat) (bk:Bool) (c:PCo):Prop where
 me:c.me=me
 seen:c.seen=[]
 cells:c.cells=[(pa bk,n),(pb bk,n)]
 stripes:c.stripes=rowOf s bk
 was:∀l∈c.was,l.held=false∧l.own=0∧l.ver<4611686018427387904
 wasle:c.was.length≤c.stripes.length
 s01:c.state≤1→c.was.length<c.stripes.length∧c.at_=0
 s1:c.state=1→c.lock.held=false∧c.lock.own=0∧c.lock.ver<4611686018427387904
 s23:c.state=2∨c.state=3→c.was.length=c.stripes.length∧c.at_=0
 s3:c.state=3→c.now+1<4611686018427387904
 s5:c.state=5→c.was.length=c.stripes.length∧c.at_<2
 s6:c.state=6→c.was.length=c.stripes.length∧c.at_≤c.stripes.length∧(c.rule.fin=0→c.at_<c.stripes.length)
 s7:c.state=7→c.at_≤c.was.length∧(c.rule.fin=0→c.at_<c.was.length)∧c.fin≠0
 no:c.state≤7∧c.state≠4
def heldI (c:PCo)(j:Nat):Prop:=j<c.was.length∧(c.state=6∨c.state=7→c.at_≤j)
def isW (c:PCo):Prop:=c.state=5∨c.state=6∧c.at_<c.stripes.length
structure LInv (m:PMm) (s:PSt) (st:Nat) (H:List Nat) (A:Nat→Option PCo):Prop where
 co:∀i c,A i=some c→i<4∧∃n bk,CoOk s i n bk c
 clk:m.clock=st+H.length
 lim:m.clock<4611686018427387904
 words:13≤m.words.length
 locks:m.locks.length=s.stripes
 pos:0<s.stripes
 mine:∀i c j,A i=some c→heldI c j→m.locks.getD (c.stripes.getD j 0) PLk.zero=⟨(c.was.getD j PLk.zero).ver,true,i⟩
 whose:∀L,(m.locks.getD L PLk.zero).held=true→∃i c j,A i=some c∧heldI c j∧c.stripes.getD j 0=L
 ver:∀p,p=7∨p=12→(m.locks.getD (sOf s p) PLk.zero).ver=verOf st m.clock∨∃i c j,A i=some c∧isW c∧heldI c j∧c.stripes.getD j 0=sOf s p
 word:∀p,p=7∨p=12→m.words.getD p 0=valOf st H m.clock∨∃i c k,A i=some c∧c.state=5∧c.at_≤k∧k<2∧(c.cells.getD k (0,0)).1=p
 wr:∀i c,A i=some c→isW c→m.clock=c.now+1∧st<m.clock∧∀x∈c.cells,x.2=valOf st H m.clock
 free:∀L,(m.locks.getD L PLk.zero).held=false→(m.locks.getD L PLk.zero).own=0∧(m.locks.getD L PLk.zero).ver<4611686018427387904
def upd (A:Nat→Option PCo)(i:Nat)(o:Option PCo):Nat→Option PCo:=fun k=>if k=i then o else A k
theorem upd_self (A:Nat→Option PCo)(i:Nat)(o:Option PCo):upd A i o i=o:=if_pos rfl
theorem upd_ne (A:Nat→Option PCo){i k:Nat}(o:Option PCo)(h:k≠i):upd A i o k=A k:=if_neg h
section
variable {m m' : PMm} {s : PSt} {st i n : Nat} {H : List Nat} {A : Nat → Option PCo} {bk : Bool} {c c' : PCo}
theorem LInv.congr (h:LInv m s st H A)(h1:m'.words=m.words)(h2:m'.locks=m.locks)(h3:m'.clock=m.clock):LInv m' s st H A :=
 ⟨h.co,by rw[h3];exact h.clk,by rw[h3];exact h.lim,by rw[h1];exact h.words,by rw[h2];exact h.locks,h.pos,by rw[h2];exact h.mine,by rw[h2];exact h.whose,by rw[h2,h3];exact h.ver,by rw[h1,h3];exact h.word,by rw[h3];exact h.wr,by rw[h2];exact h.free⟩
theorem LInv.congrA (h:LInv m s st H A){A':Nat→Option PCo}(h1:∀k,A' k=A k):LInv m s st H A':=by
 have:A'=A:=funext h1
 rw[this];exact h
theorem LInv.freeLock (h:LInv m s st H A){p:Nat}(hp:p=7∨p=12)(hf:(m.locks.getD (sOf s p) PLk.zero).held=false):(m.locks.getD (sOf s p) PLk.zero).ver=verOf st m.clock∧m.words.getD p 0=valOf st H m.clock:=by
 constructor
 ·rcases h.ver p hp with h1|⟨i,c,j,hA,hw,hj,e⟩
  ·exact h1
  ·have:=h.mine i c j hA hj
   rw[e] at this;rw[this] at hf;cases hf
 ·rcases h.word p hp with h1|⟨i,c,k,hA,h5,hk,hk2,e⟩
  ·exact h1
  ·exfalso;obtain⟨_,n,bk,hc⟩:=h.co i c hA;obtain⟨j,hj,hjs⟩:=rowOf_has s bk p hp;have h6:=hc.s5 h5
   have:=h.mine i c j hA ⟨by rw[h6.1,hc.stripes];exact hj,by omega⟩
   rw[hc.stripes,hjs] at this;rw[this] at hf;cases hf
theorem LInv.quiet (h:LInv m s st H A)(hA:A i=some c)(hi:i<4)(hc:CoOk s i n bk c')(hh:∀j,heldI c' j↔heldI c j)(hs:c'.stripes=c.stripes)(hw:c'.was=c.was)(nw:¬isW c)(nw':¬isW c'):LInv m s st H (upd A i (some c')):=by
 have n5:c.state≠5:=fun e=>nw (.inl e)
 refine⟨fun k d hk=>?_,h.clk,h.lim,h.words,h.locks,h.pos,fun k d j hk hj=>?_,fun L hL=>?_,fun p hp=>?_,fun p hp=>?_,fun k d hk hd=>?_,h.free⟩
 ·by_cases e:k=i
  ·subst e;rw[upd_self] at hk;obtain rfl:=Option.some.inj hk;exact⟨hi,n,bk,hc⟩
  ·rw[upd_ne A _ e] at hk;exact h.co k d hk
 ·by_cases e:k=i
  ·subst e;rw[upd_self] at hk;obtain rfl:=Option.some.inj hk;rw[hs,hw];exact h.mine k c j hA ((hh j).1 hj)
  ·rw[upd_ne A _ e] at hk;exact h.mine k d j hk hj
 ·obtain⟨k,d,j,hk,hj,e9⟩:=h.whose L hL;by_cases e:k=i
  ·subst e;rw[hA] at hk;obtain rfl:=Option.some.inj hk;exact⟨k,c',j,upd_self _ _ _,(hh j).2 hj,by rw[hs];exact e9⟩
  ·exact⟨k,d,j,by rw[upd_ne A _ e];exact hk,hj,e9⟩
 ·rcases h.ver p hp with h1|⟨k,d,j,hk,hd,hj,e9⟩
  ·exact .inl h1
  ·by_cases e:k=i
   ·subst e;rw[hA] at hk;obtain rfl:=Option.some.inj hk;exact absurd hd nw
   ·exact .inr ⟨k,d,j,by rw[upd_ne A _ e];exact hk,hd,hj,e9⟩
 ·rcases h.word p hp with h1|⟨k,d,j,hk,h5,hj,e9⟩
  ·exact .inl h1
  ·by_cases e:k=i
   ·subst e;rw[hA] at hk;obtain rfl:=Option.some.inj hk;exact absurd h5 n5
   ·exact .inr ⟨k,d,j,by rw[upd_ne A _ e];exact hk,h5,hj,e9⟩
 ·by_cases e:k=i
  ·subst e;rw[upd_self] at hk;obtain rfl:=Option.some.inj hk;exact absurd hd nw'
  ·rw[upd_ne A _ e] at hk;exact h.wr k d hk hd
theorem LInv.drop (h:LInv m s st H A)(hA:A i=some c)(hh:∀j,¬heldI c j)(nw:¬isW c):LInv m s st H (upd A i none):=by
 have n5:c.state≠5:=fun e=>nw (.inl e)
 refine⟨fun k d hk=>?_,h.clk,h.lim,h.words,h.locks,h.pos,fun k d j hk hj=>?_,fun L hL=>?_,fun p hp=>?_,fun p hp=>?_,fun k d hk hd=>?_,h.free⟩
 ·by_cases e:k=i
  ·subst e;rw[upd_self] at hk;cases hk
  ·rw[upd_ne A _ e] at hk;exact h.co k d hk
 ·by_cases e:k=i
  ·subst e;rw[upd_self] at hk;cases hk
  ·rw[upd_ne A _ e] at hk;exact h.mine k d j hk hj
 ·obtain⟨k,d,j,hk,hj,e9⟩:=h.whose L hL;by_cases e:k=i
  ·subst e;rw[hA] at hk;obtain rfl:=Option.some.inj hk;exact absurd hj (hh j)
  ·exact⟨k,d,j,by rw[upd_ne A _ e];exact hk,hj,e9⟩
 ·rcases h.ver p hp with h1|⟨k,d,j,hk,hd,hj,e9⟩
  ·exact .inl h1
  ·by_cases e:k=i
   ·subst e;rw[hA] at hk;obtain rfl:=Option.some.inj hk;exact absurd hd nw
   ·exact .inr ⟨k,d,j,by rw[upd_ne A _ e];exact hk,hd,hj,e9⟩
 ·rcases h.word p hp with h1|⟨k,d,j,hk,h5,hj,e9⟩
  ·exact .inl h1
  ·by_cases e:k=i
   ·subst e;rw[hA] at hk;obtain rfl:=Option.some.inj hk;exact absurd h5 n5
   ·exact .inr ⟨k,d,j,by rw[upd_ne A _ e];exact hk,h5,hj,e9⟩
 ·by_cases e:k=i
  ·subst e;rw[upd_self] at hk;cases hk
  ·rw[upd_ne A _ e] at hk;exact h.wr k d hk hd
theorem LInv.begin (h:LInv m s st H A)(hA:A i=none)(hi:i<4)(hc:CoOk s i n bk c')(hh:∀j,¬heldI c' j)(nw:¬isW c'):LInv m s st H (upd A i (some c')):=by
 refine⟨fun k d hk=>?_,h.clk,h.lim,h.words,h.locks,h.pos,fun k d j hk hj=>?_,fun L hL=>?_,fun p hp=>?_,fun p hp=>?_,fun k d hk hd=>?_,h.free⟩
 ·by_cases e:k=i
  ·subst e;rw[upd_self] at hk;obtain rfl:=Option.some.inj hk;exact⟨hi,n,bk,hc⟩
  ·rw[upd_ne A _ e] at hk;exact h.co k d hk
 ·by_cases e:k=i
  ·subst e;rw[upd_self] at hk;obtain rfl:=Option.some.inj hk;exact absurd hj (hh j)
  ·rw[upd_ne A _ e] at hk;exact h.mine k d j hk hj
 ·obtain⟨k,d,j,hk,hj,e9⟩:=h.whose L hL;by_cases e:k=i
  ·subst e;rw[hA] at hk;cases hk
  ·exact⟨k,d,j,by rw[upd_ne A _ e];exact hk,hj,e9⟩
 ·rcases h.ver p hp with h1|⟨k,d,j,hk,hd,hj,e9⟩
  ·exact .inl h1
  ·by_cases e:k=i
   ·subst e;rw[hA] at hk;cases hk
   ·exact .inr ⟨k,d,j,by rw[upd_ne A _ e];exact hk,hd,hj,e9⟩
 ·rcases h.word p hp with h1|⟨k,d,j,hk,h5,hj,e9⟩
  ·exact .inl h1
  ·by_cases e:k=i
   ·subst e;rw[hA] at hk;cases hk
   ·exact .inr ⟨k,d,j,by rw[upd_ne A _ e];exact hk,h5,hj,e9⟩
 ·by_cases e:k=i
  ·subst e;rw[upd_self] at hk;obtain rfl:=Option.some.inj hk;exact absurd hd nw
  ·rw[upd_ne A _ e] at hk;exact h.wr k d hk hd
end
end Prs
end
section
namespace Prs
section
variable {m m' : PMm} {s : PSt} {st i n : Nat} {H : List Nat} {A : Nat → Option PCo} {bk : Bool} {c c' : PCo}
theorem getD_set_self {α}(l:List α)(k:Nat)(x d:α)(h:k<l.length):(l.set k x).getD k d=x:=by
 rw[gD,List.getElem?_set_self h];rfl
theorem getD_set_ne {α}(l:List α){k j:Nat}(x d:α)(h:j≠k):(l.set k x).getD j d=l.getD j d:=by
 rw[gD,List.getElem?_set_ne (Ne.symm h),←gD]
theorem CoOk.inj (hc:CoOk s i n bk c){j k:Nat}(hj:j<c.stripes.length)(hk:k<c.stripes.length)(h:c.stripes.getD j 0=c.stripes.getD k 0):j=k:=by
 rw[hc.stripes] at hj hk h;exact rowOf_inj s bk j k hj hk h
theorem CoOk.lt (hc:CoOk s i n bk c)(hp:0<s.stripes){j:Nat}(hj:j<c.stripes.length):c.stripes.getD j 0<s.stripes:=by
 rw[hc.stripes] at hj ⊢;obtain⟨p,_,e⟩:=rowOf_is s bk j hj;rw[e];exact sOf_lt s p hp
theorem LInv.takeLock (h:LInv m s st H A)(hA:A i=some c)(hi:i<4)(hc0:CoOk s i n bk c)(h1:c.state=1)(hl:m.locks.getD (c.stripes.getD c.was.length 0) PLk.zero=c.lock)(hf:c.lock.held=false)
  (hw':c'.was=c.was++[c.lock]) (hs:c'.stripes=c.stripes) (hst:c'.state=0∨c'.state=2) (hc:CoOk s i n bk c')
  (e1:m'.words=m.words) (e2:m'.clock=m.clock) (e3:m'.locks=m.locks.set (c.stripes.getD c.was.length 0) ⟨c.lock.ver,true,i⟩):LInv m' s st H (upd A i (some c')):=by
 obtain⟨L,hL⟩:∃L,c.stripes.getD c.was.length 0=L:=⟨_,rfl⟩;have hlt:c.was.length<c.stripes.length:=(hc0.s01 (by omega)).1
 have hLs:L<m.locks.length:=by rw[←hL,h.locks];exact hc0.lt h.pos hlt
 rw[hL] at hl e3;have nw:¬isW c:=by unfold isW;omega
 have nw':¬isW c':=by unfold isW;omega
 have hself:m'.locks.getD L PLk.zero=⟨c.lock.ver,true,i⟩:=by rw[e3];exact getD_set_self _ _ _ _ hLs
 have hne:∀L',L'≠L→m'.locks.getD L' PLk.zero=m.locks.getD L' PLk.zero:=fun L' hn=>by rw[e3];exact getD_set_ne _ _ _ hn
 have hmono:∀j,heldI c j→heldI c' j:=fun j hj=>⟨by rw[hw'];simp;have:=hj.1;omega,by omega⟩
 refine⟨fun k d hk=>?_,by rw[e2];exact h.clk,by rw[e2];exact h.lim,by rw[e1];exact h.words,by rw[e3];simpa using h.locks,h.pos,fun k d j hk hj=>?_,fun L' hL'=>?_,fun p hp=>?_,fun p hp=>?_,fun k d hk hd=>?_,fun L' hL'=>?_⟩
 ·by_cases e:k=i
  ·subst e;rw[upd_self] at hk;obtain rfl:=Option.some.inj hk;exact⟨hi,n,bk,hc⟩
  ·rw[upd_ne A _ e] at hk;exact h.co k d hk
 ·by_cases e:k=i
  ·subst e;rw[upd_self] at hk;obtain rfl:=Option.some.inj hk;have hj1:j<c.was.length+1:=by have:=hj.1;rw[hw'] at this;simpa using this
   rw[hs,hw'];by_cases ej:j=c.was.length
   ·subst ej;rw[hL,hself]
    congr 1
    rw[gD,List.getElem?_append_right (Nat.le_refl _)];simp
   ·have hjl:j<c.was.length:=by omega
    have hn:c.stripes.getD j 0≠L:=fun e9=>ej (hc0.inj (by omega) hlt (e9.trans hL.symm))
    rw[hne _ hn,h.mine k c j hA ⟨hjl,by omega⟩]
    congr 1
    rw[gD,gD,List.getElem?_append_left hjl]
  ·rw[upd_ne A _ e] at hk;have h9:=h.mine k d j hk hj;have hn:d.stripes.getD j 0≠L:=fun e9=>by
    rw[e9,hl] at h9;rw[h9] at hf;cases hf
   rw[hne _ hn];exact h9
 ·by_cases e9:L'=L
  ·subst e9;exact⟨i,c',c.was.length,upd_self _ _ _,⟨by rw[hw'];simp,by omega⟩,by rw[hs];exact hL⟩
  ·rw[hne _ e9] at hL';obtain⟨k,d,j,hk,hj,e8⟩:=h.whose L' hL';by_cases e:k=i
   ·subst e;rw[hA] at hk;obtain rfl:=Option.some.inj hk;exact⟨k,c',j,upd_self _ _ _,hmono j hj,by rw[hs];exact e8⟩
   ·exact⟨k,d,j,by rw[upd_ne A _ e];exact hk,hj,e8⟩
 ·have e9:(m'.locks.getD (sOf s p) PLk.zero).ver=(m.locks.getD (sOf s p) PLk.zero).ver:=by
   by_cases e8:sOf s p=L
   ·rw[e8,hself,hl]
   ·rw[hne _ e8]
  rw[e9,e2];rcases h.ver p hp with h1|⟨k,d,j,hk,hd,hj,e9⟩
  ·exact .inl h1
  ·by_cases e:k=i
   ·subst e;rw[hA] at hk;obtain rfl:=Option.some.inj hk;exact absurd hd nw
   ·exact .inr ⟨k,d,j,by rw[upd_ne A _ e];exact hk,hd,hj,e9⟩
 ·rw[e1,e2];rcases h.word p hp with h2|⟨k,d,j,hk,h5,hj,e9⟩
  ·exact .inl h2
  ·by_cases e:k=i
   ·subst e;rw[hA] at hk;obtain rfl:=Option.some.inj hk;omega
   ·exact .inr ⟨k,d,j,by rw[upd_ne A _ e];exact hk,h5,hj,e9⟩
 ·by_cases e:k=i
  ·subst e;rw[upd_self] at hk;obtain rfl:=Option.some.inj hk;exact absurd hd nw'
  ·rw[upd_ne A _ e] at hk;rw[e2];exact h.wr k d hk hd
 ·by_cases e9:L'=L
  ·subst e9;rw[hself] at hL';cases hL'
  ·rw[hne _ e9] at hL' ⊢;exact h.free L' hL'
theorem LInv.letGo (h:LInv m s st H A)(hA:A i=some c)(hi:i<4)(hc0:CoOk s i n bk c)(h1:c.state=6∨c.state=7)(hat:c.at_<c.was.length){l:PLk}(hl1:l.held=false)(hl2:l.own=0)(hl3:l.ver<4611686018427387904)
  (hv:c.state=6∧l.ver=verOf st m.clock∨c.state=7∧l.ver=(c.was.getD c.at_ PLk.zero).ver)
  (hw':c'.was=c.was) (hs:c'.stripes=c.stripes) (hce:c'.cells=c.cells) (hno:c'.now=c.now) (hst:c'.state=c.state) (hat':c'.at_=c.at_+1) (hc:CoOk s i n bk c')
  (e1:m'.words=m.words) (e2:m'.clock=m.clock) (e3:m'.locks=m.locks.set (c.stripes.getD c.at_ 0) l):LInv m' s st H (upd A i (some c')):=by
 obtain⟨L,hL⟩:∃L,c.stripes.getD c.at_ 0=L:=⟨_,rfl⟩;have hlt:c.at_<c.stripes.length:=by have:=hc0.wasle;omega
 have hLs:L<m.locks.length:=by rw[←hL,h.locks];exact hc0.lt h.pos hlt
 have hmine:=h.mine i c c.at_ hA ⟨hat,fun _=>Nat.le_refl _⟩
 rw[hL] at hmine e3;have hself:m'.locks.getD L PLk.zero=l:=by rw[e3];exact getD_set_self _ _ _ _ hLs
 have hne:∀L',L'≠L→m'.locks.getD L' PLk.zero=m.locks.getD L' PLk.zero:=fun L' hn=>by rw[e3];exact getD_set_ne _ _ _ hn
 have hdown:∀j,heldI c' j→heldI c j∧c.stripes.getD j 0≠L:=fun j hj=>by
  have h2:=hj.1;have h3:=hj.2 (by omega)
  rw[hw'] at h2;refine⟨⟨h2,fun _=>by omega⟩,fun e9=>?_⟩
  have:=hc0.inj (by have:=hc0.wasle;omega) hlt (e9.trans hL.symm)
  omega
 have hup:∀j,heldI c j→c.stripes.getD j 0≠L→heldI c' j:=fun j hj hn=>by
  have h3:=hj.2 h1;refine⟨by rw[hw'];exact hj.1,fun _=>?_⟩
  rcases Nat.lt_or_ge j c'.at_ with h4|h4
  ·have:j=c.at_:=by omega
   subst this;exact absurd hL hn
  ·exact h4
 refine⟨fun k d hk=>?_,by rw[e2];exact h.clk,by rw[e2];exact h.lim,by rw[e1];exact h.words,by rw[e3];simpa using h.locks,h.pos,fun k d j hk hj=>?_,fun L' hL'=>?_,fun p hp=>?_,fun p hp=>?_,fun k d hk hd=>?_,fun L' hL'=>?_⟩
 ·by_cases e:k=i
  ·subst e;rw[upd_self] at hk;obtain rfl:=Option.some.inj hk;exact⟨hi,n,bk,hc⟩
  ·rw[upd_ne A _ e] at hk;exact h.co k d hk
 ·by_cases e:k=i
  ·subst e;rw[upd_self] at hk;obtain rfl:=Option.some.inj hk;obtain⟨q1,q2⟩:=hdown j hj;rw[hs,hw',hne _ q2];exact h.mine k c j hA q1
  ·rw[upd_ne A _ e] at hk;have h9:=h.mine k d j hk hj;have hn:d.stripes.getD j 0≠L:=fun e9=>by
    rw[e9,hmine] at h9;injection h9 with _ _ h9
    exact e h9.symm
   rw[hne _ hn];exact h9
 ·by_cases e9:L'=L
  ·subst e9;rw[hself,hl1] at hL';cases hL'
  ·rw[hne _ e9] at hL';obtain⟨k,d,j,hk,hj,e8⟩:=h.whose L' hL';by_cases e:k=i
   ·subst e;rw[hA] at hk;obtain rfl:=Option.some.inj hk;exact⟨k,c',j,upd_self _ _ _,hup j hj (by rw[e8];exact e9),by rw[hs];exact e8⟩
   ·exact⟨k,d,j,by rw[upd_ne A _ e];exact hk,hj,e8⟩
 ·by_cases e8:sOf s p=L
  ·rw[e8,hself,e2];rcases hv with⟨_,hv⟩|⟨h7,hv⟩
   ·exact .inl hv
   ·rcases h.ver p hp with h2|⟨k,d,j,hk,hd,hj,e9⟩
    ·left;rw[hv,←h2,e8,hmine]
    ·exfalso;have h9:=h.mine k d j hk hj;rw[e9,e8,hmine] at h9;injection h9 with _ _ h9
     subst h9;rw[hA] at hk;obtain rfl:=Option.some.inj hk;rcases hd with hd|hd<;>omega
  ·rw[hne _ e8,e2];rcases h.ver p hp with h2|⟨k,d,j,hk,hd,hj,e9⟩
   ·exact .inl h2
   ·by_cases e:k=i
    ·subst e;rw[hA] at hk;obtain rfl:=Option.some.inj hk;have h5:=hup j hj (by rw[e9];exact e8)
     refine .inr ⟨k,c',j,upd_self _ _ _,?_,h5,by rw[hs];exact e9⟩
     rcases hd with hd|hd
     ·omega
     ·right;have h6:=h5.2 (by omega)
      have h7:=h5.1;rw[hw'] at h7
      have:=hc0.wasle
      rw[hs];omega
    ·exact .inr ⟨k,d,j,by rw[upd_ne A _ e];exact hk,hd,hj,e9⟩
 ·rw[e1,e2];rcases h.word p hp with h2|⟨k,d,j,hk,h5,hj,e9⟩
  ·exact .inl h2
  ·by_cases e:k=i
   ·subst e;rw[hA] at hk;obtain rfl:=Option.some.inj hk;omega
   ·exact .inr ⟨k,d,j,by rw[upd_ne A _ e];exact hk,h5,hj,e9⟩
 ·by_cases e:k=i
  ·subst e;rw[upd_self] at hk;obtain rfl:=Option.some.inj hk;rw[e2,hno,hce];refine h.wr k c hA ?_;rcases hd with hd|hd
   ·omega
   ·right;omega
  ·rw[upd_ne A _ e] at hk;rw[e2];exact h.wr k d hk hd
 ·by_cases e9:L'=L
  ·subst e9;rw[hself];exact⟨hl2,hl3⟩
  ·rw[hne _ e9] at hL' ⊢;exact h.free L' hL'
theorem LInv.storeWord (h:LInv m s st H A)(hA:A i=some c)(hi:i<4)(hc0:CoOk s i n bk c)(h5:c.state=5)
  (hw':c'.was=c.was) (hs:c'.stripes=c.stripes) (hce:c'.cells=c.cells) (hno:c'.now=c.now)
  (hst:c'.state=5∧c'.at_=c.at_+1∧c.at_+1<2∨c'.state=6∧c'.at_=0∧c.at_+1=2) (hc:CoOk s i n bk c')
  (e1:m'.words=m.words.set (c.cells.getD c.at_ (0,0)).1 (c.cells.getD c.at_ (0,0)).2) (e2:m'.clock=m.clock) (e3:m'.locks=m.locks):LInv m' s st H (upd A i (some c')):=by
 have h5':=hc0.s5 h5;obtain⟨p0,hp0⟩:∃p0,(c.cells.getD c.at_ (0,0)).1=p0:=⟨_,rfl⟩;have hpn:(p0=7∨p0=12)∧(c.cells.getD c.at_ (0,0)).2=n∧c.cells.getD c.at_ (0,0)∈c.cells:=by
  rw[←hp0,hc0.cells];rcases(by omega:c.at_=0∨c.at_=1) with e|e
  ·rw[e];exact⟨pa_or bk,rfl,by simp⟩
  ·rw[e];exact⟨pb_or bk,rfl,by simp⟩
 have hwr:=h.wr i c hA (.inl h5);have hval:(c.cells.getD c.at_ (0,0)).2=valOf st H m.clock:=hwr.2.2 _ hpn.2.2;rw[hp0,hval] at e1;have hlen:p0<m.words.length:=by have:=h.words;omega
 have hpos:=rowOf_pos s bk;rw[←hc0.stripes] at hpos;have hW':isW c':=by
  rcases hst with⟨a,_⟩|⟨a,b,_⟩
  ·exact .inl a
  ·right;rw[hs];omega
 have hheld:∀j,heldI c' j↔heldI c j:=fun j=>by
  unfold heldI;rw[hw'];constructor
  ·rintro⟨a,_⟩;exact⟨a,by omega⟩
  ·rintro⟨a,_⟩;exact⟨a,by omega⟩
 refine⟨fun k d hk=>?_,by rw[e2];exact h.clk,by rw[e2];exact h.lim,by rw[e1];simpa using h.words,by rw[e3];exact h.locks,h.pos,fun k d j hk hj=>?_,fun L' hL'=>?_,fun p hp=>?_,fun p hp=>?_,fun k d hk hd=>?_,fun L' hL'=>?_⟩
 ·by_cases e:k=i
  ·subst e;rw[upd_self] at hk;obtain rfl:=Option.some.inj hk;exact⟨hi,n,bk,hc⟩
  ·rw[upd_ne A _ e] at hk;exact h.co k d hk
 ·rw[e3];by_cases e:k=i
  ·subst e;rw[upd_self] at hk;obtain rfl:=Option.some.inj hk;rw[hs,hw'];exact h.mine k c j hA ((hheld j).1 hj)
  ·rw[upd_ne A _ e] at hk;exact h.mine k d j hk hj
 ·rw[e3] at hL';obtain⟨k,d,j,hk,hj,e8⟩:=h.whose L' hL';by_cases e:k=i
  ·subst e;rw[hA] at hk;obtain rfl:=Option.some.inj hk;exact⟨k,c',j,upd_self _ _ _,(hheld j).2 hj,by rw[hs];exact e8⟩
  ·exact⟨k,d,j,by rw[upd_ne A _ e];exact hk,hj,e8⟩
 ·rw[e3,e2];rcases h.ver p hp with h2|⟨k,d,j,hk,hd,hj,e9⟩
  ·exact .inl h2
  ·by_cases e:k=i
   ·subst e;rw[hA] at hk;obtain rfl:=Option.some.inj hk;exact .inr ⟨k,c',j,upd_self _ _ _,hW',(hheld j).2 hj,by rw[hs];exact e9⟩
   ·exact .inr ⟨k,d,j,by rw[upd_ne A _ e];exact hk,hd,hj,e9⟩
 ·rw[e1,e2];by_cases ep:p=p0
  ·subst ep;exact .inl (getD_set_self _ _ _ _ hlen)
  ·rw[getD_set_ne _ _ _ ep];rcases h.word p hp with h2|⟨k,d,j,hk,h6,hj,hj2,e9⟩
   ·exact .inl h2
   ·by_cases e:k=i
    ·subst e;rw[hA] at hk;obtain rfl:=Option.some.inj hk;have hjn:j≠c.at_:=fun e8=>by
      subst e8;exact ep (e9.symm.trans hp0)
     refine .inr ⟨k,c',j,upd_self _ _ _,?_,?_,hj2,by rw[hce];exact e9⟩<;>omega
    ·exact .inr ⟨k,d,j,by rw[upd_ne A _ e];exact hk,h6,hj,hj2,e9⟩
 ·by_cases e:k=i
  ·subst e;rw[upd_self] at hk;obtain rfl:=Option.some.inj hk;rw[e2,hno,hce];exact hwr
  ·rw[upd_ne A _ e] at hk;rw[e2];exact h.wr k d hk hd
 ·rw[e3] at hL' ⊢;exact h.free L' hL'
theorem LInv.apart (h:LInv m s st H A){k:Nat}{d:PCo}{j l:Nat}(hA:A i=some c)(hB:A k=some d)(hj:heldI c j)(hl:heldI d l)(e:c.stripes.getD j 0=d.stripes.getD l 0):i=k:=by
 have h1:=h.mine i c j hA hj;have h2:=h.mine k d l hB hl;rw[e,h2] at h1;injection h1 with _ _ h1
 exact h1.symm
theorem LInv.raise (h:LInv m s st H A)(hA:A i=some c)(hi:i<4)(hc0:CoOk s i n bk c)(h3:c.state=3)(hclk:m.clock=c.now)
  (hw':c'.was=c.was) (hs:c'.stripes=c.stripes) (hce:c'.cells=c.cells) (hno:c'.now=c.now) (hst:c'.state=5∧c'.at_=0) (hc:CoOk s i n bk c')
  (e1:m'.words=m.words) (e2:m'.clock=c.now+1) (e3:m'.locks=m.locks):LInv m' s st (H++[n]) (upd A i (some c')):=by
 have h23:=hc0.s23 (.inr h3);have hlim:=hc0.s3 h3;have hk0:=h.clk;have hheld:∀j,heldI c' j↔heldI c j:=fun j=>by
  unfold heldI;rw[hw'];constructor
  ·rintro⟨a,_⟩;exact⟨a,by omega⟩
  ·rintro⟨a,_⟩;exact⟨a,by omega⟩
 have hcl:m'.clock=st+H.length+1:=by omega
 have hval:valOf st (H++[n]) m'.clock=n:=valOf_last hcl;have hother:∀k d,A k=some d→isW d→k=i:=fun k d hk hd=>by
  obtain⟨_,n2,bk2,hd2⟩:=h.co k d hk;obtain⟨j,hj⟩:∃j,heldI d j:=by
   have hpos:=rowOf_pos s bk2;rw[←hd2.stripes] at hpos;rcases hd with h5|⟨h6,h7⟩
   ·exact⟨0,by have:=hd2.s5 h5;omega,by omega⟩
   ·exact⟨d.at_,by have:=hd2.s6 h6;omega,fun _=>Nat.le_refl _⟩
  have hjl:j<(rowOf s bk2).length:=by rw[←hd2.stripes];have:=hj.1;have:=hd2.wasle;omega
  obtain⟨p,hp,ep⟩:=rowOf_is s bk2 j hjl;obtain⟨l,hl,el⟩:=rowOf_has s bk p hp;refine h.apart hk hA hj (l:=l) ⟨by rw[h23.1,hc0.stripes];exact hl,by omega⟩ ?_
  rw[hc0.stripes,hd2.stripes,ep,el]
 refine⟨fun k d hk=>?_,by rw[hcl];simp;omega,by omega,by rw[e1];exact h.words,by rw[e3];exact h.locks,h.pos,fun k d j hk hj=>?_,fun L' hL'=>?_,fun p hp=>?_,fun p hp=>?_,fun k d hk hd=>?_,fun L' hL'=>?_⟩
 ·by_cases e:k=i
  ·subst e;rw[upd_self] at hk;obtain rfl:=Option.some.inj hk;exact⟨hi,n,bk,hc⟩
  ·rw[upd_ne A _ e] at hk;exact h.co k d hk
 ·rw[e3];by_cases e:k=i
  ·subst e;rw[upd_self] at hk;obtain rfl:=Option.some.inj hk;rw[hs,hw'];exact h.mine k c j hA ((hheld j).1 hj)
  ·rw[upd_ne A _ e] at hk;exact h.mine k d j hk hj
 ·rw[e3] at hL';obtain⟨k,d,j,hk,hj,e8⟩:=h.whose L' hL';by_cases e:k=i
  ·subst e;rw[hA] at hk;obtain rfl:=Option.some.inj hk;exact⟨k,c',j,upd_self _ _ _,(hheld j).2 hj,by rw[hs];exact e8⟩
  ·exact⟨k,d,j,by rw[upd_ne A _ e];exact hk,hj,e8⟩
 ·obtain⟨j,hj,ej⟩:=rowOf_has s bk p hp;refine .inr ⟨i,c',j,upd_self _ _ _,.inl hst.1,⟨by rw[hw',h23.1,hc0.stripes];exact hj,by omega⟩,by rw[hs,hc0.stripes];exact ej⟩
 ·right;rcases(by rcases hp with rfl|rfl<;>cases bk<;>simp[pa,pb]:p=pa bk∨p=pb bk) with e|e
  ·exact⟨i,c',0,upd_self _ _ _,hst.1,by omega,by omega,by rw[hce,hc0.cells];exact e.symm⟩
  ·exact⟨i,c',1,upd_self _ _ _,hst.1,by omega,by omega,by rw[hce,hc0.cells];exact e.symm⟩
 ·by_cases e:k=i
  ·subst e;rw[upd_self] at hk;obtain rfl:=Option.some.inj hk;refine⟨by omega,by omega,fun x hx=>?_⟩
   rw[hval];rw[hce,hc0.cells] at hx;simp at hx;rcases hx with rfl|rfl<;>rfl
  ·rw[upd_ne A _ e] at hk;exact absurd (hother k d hk hd) e
 ·rw[e3] at hL' ⊢;exact h.free L' hL'
end
end Prs
end
section
namespace Prs
def Rely (m m':PMm)(st:Nat)(H H':List Nat):Prop :=
 (m'.clock=m.clock∧H'=H∧∀p,p=7∨p=12→m'.words.getD p 0=m.words.getD p 0∨m'.words.getD p 0=valOf st H m.clock)∨(m'.clock=m.clock+1∧∃n,H'=H++[n])
theorem Rely.same {m m':PMm}{st:Nat}{H:List Nat}(h1:m'.words=m.words)(h2:m'.clock=m.clock):Rely m m' st H H:=.inl ⟨h2,rfl,fun p _=>.inl (by rw[h1])⟩
theorem waits_fin (p:PPat)(l:PLk):(p.waits l).2.fin=p.fin:=by unfold PPat.waits;split<;>rfl
section
variable {m m' : PMm} {s : PSt} {st i n : Nat} {H : List Nat} {A : Nat → Option PCo} {bk : Bool} {c c' : PCo}
theorem stop_facts (hc:CoOk s i n bk c)(h:c.state≤3)(hfin:c.rule.fin=0)(f e:Nat)(b:Int)(hf:f≠0):
  CoOk s i n bk (c.stop f e b)∧(∀j,heldI (c.stop f e b) j↔heldI c j)∧(c.stop f e b).stripes=c.stripes∧(c.stop f e b).was=c.was∧¬isW (c.stop f e b)∧((c.stop f e b).rule.fin≠0→∀j,¬heldI (c.stop f e b) j):=by
 unfold PCo.stop PCo.leave;simp only;split
 ·rename_i h0;refine⟨⟨hc.me,hc.seen,hc.cells,hc.stripes,hc.was,hc.wasle,by simp,by simp,by simp,by simp,by simp,by simp,fun _=>⟨by simp,fun h9=>absurd h9 hf,hf⟩,by simp⟩,fun j=>?_,rfl,rfl,by unfold isW;simp,fun _ j hj=>?_⟩
  ·unfold heldI;simp only;exact⟨fun hx=>⟨hx.1,by omega⟩,fun hx=>⟨hx.1,by simp⟩⟩
  ·have:=hj.1
   simp only at this;omega
 ·rename_i h0;refine⟨⟨hc.me,hc.seen,hc.cells,hc.stripes,hc.was,hc.wasle,by simp,by simp,by simp,by simp,by simp,by simp,fun _=>⟨by simp,fun _=>by simp only;omega,hf⟩,by simp⟩,fun j=>?_,rfl,rfl,by unfold isW;simp,fun h9=>absurd hfin h9⟩
  unfold heldI;simp only;exact⟨fun hx=>⟨hx.1,by omega⟩,fun hx=>⟨hx.1,by simp⟩⟩
theorem tell_eq (a:PAns)(ha:a.err=0)(hf:c.rule.fin=0){k:Nat}(hk:c.state=k):c.tell a=match (generalizing:=false) k with
 |0=>c.take a
 |1=>c.take a
 |2=>c.raise a
 |3=>c.raise a
 |4=>c.proved a.lock
 |5=>{ c with at_:=c.at_+1 }.write
 |6=>{ c with at_:=c.at_+1 }.give
 |7=>{ c with at_:=c.at_+1 }.leave
 |_=>c:=by
 subst hk;have e:c.rule.hear a=c.rule:=by unfold PPat.hear;rw[if_neg (fun h9=>h9.2 ha)]
 unfold PCo.tell;rw[e];simp only;rw[if_neg (by simp[hf])]
 rfl
theorem next_eq (hf:c.rule.fin=0):c.next=match c.state with
 |0=>(POp.at' 3 (c.stripes.getD c.was.length 0),true)
 |1=>({ POp.at' 4 (c.stripes.getD c.was.length 0) with was:=c.lock,lock:=⟨c.lock.ver,true,c.me⟩ },true)
 |2=>(POp.at' 6 0,true)
 |3=>({ POp.at' 7 0 with old:=c.now,word:=c.now+1 },true)
 |4=>(POp.at' 3 (c.seen.getD c.at_ (0,0)).1,true)
 |5=>({ POp.at' 2 (c.cells.getD c.at_ (0,0)).1 with word:=(c.cells.getD c.at_ (0,0)).2 },true)
 |6=>({ POp.at' 5 (c.stripes.getD c.at_ 0) with lock:=⟨c.now+1,false,0⟩ },true)
 |_=>({ POp.at' 5 (c.stripes.getD c.at_ 0) with lock:=c.was.getD c.at_ PLk.zero },true):=by
 unfold PCo.next;rw[if_neg (by simp[hf])]
 rfl
theorem do3 (L:Nat)(h:L<m.locks.length):doM m (POp.at' 3 L)=({ PAns.zero with lock:=m.locks.getD L PLk.zero },m):=by
 show(if L<m.locks.length then _ else _)=_
 rw[if_pos h];rfl
theorem do4 (L:Nat)(was l:PLk)(h:L<m.locks.length)(hl:l.ok=true):doM m { POp.at' 4 L with was:=was,lock:=l }=if m.locks.getD L PLk.zero=was then({ PAns.zero with done:=true },{ m with locks:=m.locks.set L l }) else(PAns.zero,m):=by
 show(if L<m.locks.length then(if l.ok=true then _ else _) else _)=_
 rw[if_pos h,if_pos hl];rfl
theorem do5 (L:Nat)(l:PLk)(h:L<m.locks.length)(hl:l.ok=true):doM m { POp.at' 5 L with lock:=l }=(PAns.zero,{ m with locks:=m.locks.set L l }):=by
 show(if L<m.locks.length then(if l.ok=true then _ else _) else _)=_
 rw[if_pos h,if_pos hl];rfl
theorem do6:doM m (POp.at' 6 0)=({ PAns.zero with word:=m.clock },m):=rfl
theorem do7 (k:Nat)(h:k+1<4611686018427387904):doM m { POp.at' 7 0 with old:=k,word:=k+1 }=if m.clock=k then({ PAns.zero with done:=true },{ m with clock:=k+1 }) else(PAns.zero,m):=by
 show(if k+1≤k then _ else if 4611686018427387904≤k+1 then _ else _)=_
 rw[if_neg (by omega),if_neg (by omega)]
theorem do2 (p x:Nat)(h1:1≤p)(h2:p<m.words.length):doM m { POp.at' 2 p with word:=x }=(PAns.zero,{ m with words:=m.words.set p x }):=by
 show(if 1≤p∧p<m.words.length then _ else _)=_
 rw[if_pos ⟨h1,h2⟩];rfl
structure CoStep (m:PMm) (s:PSt) (st i:Nat) (H:List Nat) (A:Nat→Option PCo) (c:PCo) (a:PAns) (m':PMm):Prop where
 err:a.err=0
 inv:∃H',Rely m m' st H H'∧LInv m' s st H' (upd A i (some (c.tell a)))
 fin:(c.tell a).rule.fin≠0→(∀j,¬heldI (c.tell a) j)∧¬isW (c.tell a)
 ok:∃n bk,CoOk s i n bk (c.tell a)
theorem CoStep.quiet (h:LInv m s st H A)(hA:A i=some c)(hi:i<4){a:PAns}(ha:a.err=0)(hc:CoOk s i n bk (c.tell a))(hh:∀j,heldI (c.tell a) j↔heldI c j)(hs:(c.tell a).stripes=c.stripes)(hw:(c.tell a).was=c.was)(nw:¬isW c)(nw':¬isW (c.tell a))(hf:(c.tell a).rule.fin≠0→∀j,¬heldI (c.tell a) j):CoStep m s st i H A c a m :=
 ⟨ha,⟨H,Rely.same rfl rfl,h.quiet hA hi hc hh hs hw nw nw'⟩,fun h9=>⟨hf h9,nw'⟩,n,bk,hc⟩
theorem CoOk.rule' (hc:CoOk s i n bk c)(h:c.state≤3)(r:PPat):CoOk s i n bk { c with rule:=r } :=
 ⟨hc.me,hc.seen,hc.cells,hc.stripes,hc.was,hc.wasle,hc.s01,hc.s1,hc.s23,hc.s3,hc.s5,fun h9=>by simp only at h9;omega,fun h9=>by simp only at h9;omega,hc.no⟩
theorem co_step0 (h:LInv m s st H A)(hA:A i=some c)(hi:i<4)(hc:CoOk s i n bk c)(hfin:c.rule.fin=0)(h0:c.state=0):CoStep m s st i H A c (doM m c.next.1).1 (doM m c.next.1).2:=by
 have h01:=hc.s01 (by omega)
 have hL:c.stripes.getD c.was.length 0<m.locks.length:=by rw[h.locks];exact hc.lt h.pos h01.1
 have hnw:¬isW c:=by unfold isW;omega
 have hfree:=h.free (c.stripes.getD c.was.length 0);rw[next_eq hfin,h0];simp only;rw[do3 _ hL];generalize m.locks.getD (c.stripes.getD c.was.length 0) PLk.zero=l at *
 simp only;have ht:c.tell { PAns.zero with lock:=l }=c.take { PAns.zero with lock:=l }:=by rw[tell_eq _ rfl hfin h0];rfl
 by_cases hl:l.held=true
 ·have e:c.tell { PAns.zero with lock:=l }=c.heldBy l:=by rw[ht];unfold PCo.take;rw[if_pos ⟨h0,hl⟩]
  have hr:=hc.rule' (by omega) (c.rule.waits l).2
  by_cases hw:(c.rule.waits l).1=true
  ·have e2:c.heldBy l={ c with rule:=(c.rule.waits l).2 }:=by unfold PCo.heldBy;simp only;rw[if_pos hw]
   refine CoStep.quiet (n:=n) (bk:=bk) h hA hi rfl ?_ ?_ ?_ ?_ hnw ?_ ?_<;>rw[e,e2]
   ·exact hr
   ·exact fun j=>Iff.rfl
   ·exact hnw
   ·intro h9;simp only[waits_fin] at h9;exact absurd hfin h9
  ·have e2:c.heldBy l={ c with rule:=(c.rule.waits l).2 }.stop 5 0 l.own:=by unfold PCo.heldBy;simp only;rw[if_neg hw]
   obtain⟨q1,q2,q3,q4,q5,q6⟩:=stop_facts hr (by simp only;omega) (by simp only[waits_fin];exact hfin) 5 0 (l.own:Int) (by omega)
   refine CoStep.quiet (n:=n) (bk:=bk) h hA hi rfl ?_ ?_ ?_ ?_ hnw ?_ ?_<;>rw[e,e2]
   ·exact q1
   ·exact q2
   ·exact q3
   ·exact q4
   ·exact q5
   ·exact q6
 ·have hl':l.held=false:=by simpa using hl
  have e:c.tell { PAns.zero with lock:=l }={ c with lock:=l,state:=1 }:=by
   rw[ht];unfold PCo.take;rw[if_neg (fun h9=>hl h9.2),if_pos h0]
  refine CoStep.quiet (n:=n) (bk:=bk) h hA hi rfl ?_ ?_ ?_ ?_ hnw ?_ ?_<;>rw[e]
  ·exact⟨hc.me,hc.seen,hc.cells,hc.stripes,hc.was,hc.wasle,fun _=>h01,fun _=>⟨hl',hfree hl'⟩,by simp,by simp,by simp,by simp,by simp,by simp⟩
  ·intro j;unfold heldI;simp only;exact⟨fun hx=>⟨hx.1,by omega⟩,fun hx=>⟨hx.1,by omega⟩⟩
  ·unfold isW;simp
  ·exact fun h9=>absurd hfin h9
theorem co_step1 (h:LInv m s st H A)(hA:A i=some c)(hi:i<4)(hc:CoOk s i n bk c)(hfin:c.rule.fin=0)(h0:c.state=1):CoStep m s st i H A c (doM m c.next.1).1 (doM m c.next.1).2:=by
 have h01:=hc.s01 (by omega)
 have h1:=hc.s1 h0;have hL:c.stripes.getD c.was.length 0<m.locks.length:=by rw[h.locks];exact hc.lt h.pos h01.1
 have hnw:¬isW c:=by unfold isW;omega
 have hok:(⟨c.lock.ver,true,c.me⟩:PLk).ok=true:=by
  unfold PLk.ok;simp[hc.me,hi,h1.2.2]
 rw[next_eq hfin,h0];simp only;rw[do4 _ _ _ hL hok];by_cases hl:m.locks.getD (c.stripes.getD c.was.length 0) PLk.zero=c.lock
 ·rw[if_pos hl];simp only;obtain⟨a,ha⟩:∃a:PAns,a={ PAns.zero with done:=true }:=⟨_,rfl⟩
  rw[←ha];have hae:a.err=0:=by rw[ha];rfl
  have had:a.done=true:=by rw[ha]
  have e:c.tell a={ c with was:=c.was++[c.lock] }.more:=by
   rw[tell_eq _ hae hfin h0];simp only;unfold PCo.take;rw[if_neg (by omega),if_neg (by omega),if_pos had]
  have hst:(c.tell a).state=0∨(c.tell a).state=2:=by rw[e];unfold PCo.more;simp only;split<;>simp
  have hfin':(c.tell a).rule.fin=0:=by rw[e];exact hfin
  have hw':(c.tell a).was=c.was++[c.lock]:=by rw[e];rfl
  have hs':(c.tell a).stripes=c.stripes:=by rw[e];rfl
  have hat':(c.tell a).at_=0:=by rw[e];exact h01.2
  have hco:CoOk s i n bk (c.tell a):=by
   have hlen:(c.tell a).was.length=c.was.length+1:=by rw[hw'];simp
   refine⟨by rw[e];exact hc.me,by rw[e];exact hc.seen,by rw[e];exact hc.cells,by rw[e];exact hc.stripes,?_,?_,?_,by omega,?_,by omega,by omega,by omega,by omega,by omega⟩
   ·rw[hw'];intro l hl;simp only[List.mem_append,List.mem_singleton] at hl;rcases hl with hl|rfl
    ·exact hc.was l hl
    ·exact h1
   ·rw[hs',hlen];exact h01.1
   ·intro h9;refine⟨?_,hat'⟩;rw[e] at h9;unfold PCo.more at h9;simp only at h9;split at h9
    ·omega
    ·rename_i h8;rw[hs',hlen];simp at h8;omega
   ·intro h9;refine⟨?_,hat'⟩;rw[e] at h9;unfold PCo.more at h9;simp only at h9;split at h9
    ·rename_i h8;rw[hs',hw'];exact h8
    ·omega
  refine⟨hae,⟨H,Rely.same rfl rfl,h.takeLock hA hi hc h0 hl h1.1 hw' hs' hst hco rfl rfl (by rw[hc.me])⟩,fun h9=>absurd hfin' h9,n,bk,hco⟩
 ·rw[if_neg hl];simp only;have e:c.tell PAns.zero={ c with state:=0 }:=by
   rw[tell_eq _ rfl hfin h0];simp only;unfold PCo.take;rw[if_neg (by omega),if_neg (by omega),if_neg (by simp[PAns.zero])]
  refine CoStep.quiet (n:=n) (bk:=bk) h hA hi rfl ?_ ?_ ?_ ?_ hnw ?_ ?_<;>rw[e]
  ·exact⟨hc.me,hc.seen,hc.cells,hc.stripes,hc.was,hc.wasle,fun _=>h01,by simp,by simp,by simp,by simp,by simp,by simp,by simp⟩
  ·intro j;unfold heldI;simp only;exact⟨fun hx=>⟨hx.1,by omega⟩,fun hx=>⟨hx.1,by omega⟩⟩
  ·unfold isW;simp
  ·exact fun h9=>absurd hfin h9
theorem co_step2 (h:LInv m s st H A)(hA:A i=some c)(hi:i<4)(hc:CoOk s i n bk c)(hfin:c.rule.fin=0)(h0:c.state=2):CoStep m s st i H A c (doM m c.next.1).1 (doM m c.next.1).2:=by
 have h23:=hc.s23 (by omega)
 have hnw:¬isW c:=by unfold isW;omega
 rw[next_eq hfin,h0];simp only;rw[do6];simp only;obtain⟨a,ha⟩:∃a:PAns,a={ PAns.zero with word:=m.clock }:=⟨_,rfl⟩
 rw[←ha];have hae:a.err=0:=by rw[ha];rfl
 have haw:a.word=m.clock:=by rw[ha]
 have ht:c.tell a=c.raise a:=by rw[tell_eq _ hae hfin h0];rfl
 by_cases hl:4611686018427387903≤a.word
 ·have e:c.tell a=c.stop 4 7 (-1):=by rw[ht];unfold PCo.raise;rw[if_pos ⟨h0,hl⟩]
  obtain⟨q1,q2,q3,q4,q5,q6⟩:=stop_facts hc (by omega) hfin 4 7 (-1) (by omega)
  refine CoStep.quiet (n:=n) (bk:=bk) h hA hi hae ?_ ?_ ?_ ?_ hnw ?_ ?_<;>rw[e]
  ·exact q1
  ·exact q2
  ·exact q3
  ·exact q4
  ·exact q5
  ·exact q6
 ·have e:c.tell a={ c with now:=a.word,state:=3 }:=by rw[ht];unfold PCo.raise;rw[if_neg (fun h9=>hl h9.2),if_pos h0]
  refine CoStep.quiet (n:=n) (bk:=bk) h hA hi hae ?_ ?_ ?_ ?_ hnw ?_ ?_<;>rw[e]
  ·exact⟨hc.me,hc.seen,hc.cells,hc.stripes,hc.was,hc.wasle,by simp,by simp,fun _=>h23,fun _=>by simp only;omega,by simp,by simp,by simp,by simp⟩
  ·intro j;unfold heldI;simp only;exact⟨fun hx=>⟨hx.1,by omega⟩,fun hx=>⟨hx.1,by omega⟩⟩
  ·unfold isW;simp
  ·exact fun h9=>absurd hfin h9
theorem co_step3 (h:LInv m s st H A)(hA:A i=some c)(hi:i<4)(hc:CoOk s i n bk c)(hfin:c.rule.fin=0)(h0:c.state=3):CoStep m s st i H A c (doM m c.next.1).1 (doM m c.next.1).2:=by
 have h23:=hc.s23 (by omega)
 have hnw:¬isW c:=by unfold isW;omega
 rw[next_eq hfin,h0];simp only;rw[do7 _ (hc.s3 h0)];by_cases hl:m.clock=c.now
 ·rw[if_pos hl];simp only;obtain⟨a,ha⟩:∃a:PAns,a={ PAns.zero with done:=true }:=⟨_,rfl⟩
  rw[←ha];have hae:a.err=0:=by rw[ha];rfl
  have had:a.done=true:=by rw[ha]
  have hcl:c.cells.length=2:=by rw[hc.cells];rfl
  have hb:∀d:PCo,d.cells.length=2→d.begin={ d with writing:=true,at_:=0,state:=5 }:=fun d hd=>by
   unfold PCo.begin PCo.write;simp[hd]
  have e:∃k,c.tell a={ c with writing:=true,at_:=0,state:=5,rule:=k }∧k=c.rule:=by
   refine⟨_,?_,rfl⟩;rw[tell_eq _ hae hfin h0];simp only;unfold PCo.raise;rw[if_neg (by omega),if_neg (by omega),if_neg (by simp[had])]
   split
   ·rw[hb c hcl]
   ·unfold PCo.prove;show PCo.proveF (c.seen.length+1) _=_
    unfold PCo.proveF;simp only;rw[if_neg (by rw[hc.seen];simp)]
    exact hb _ hcl
  obtain⟨k,e,hk⟩:=e;have hco:CoOk s i n bk (c.tell a):=by
   rw[e];exact⟨hc.me,hc.seen,hc.cells,hc.stripes,hc.was,hc.wasle,by simp,by simp,by simp,by simp,fun _=>⟨h23.1,by simp⟩,by simp,by simp,by simp⟩
  refine⟨hae,⟨H++[n],.inr ⟨by simp only;omega,n,rfl⟩,h.raise hA hi hc h0 hl (by rw[e]) (by rw[e]) (by rw[e]) (by rw[e]) (by rw[e];exact⟨rfl,rfl⟩) hco rfl rfl rfl⟩,fun h9=>?_,n,bk,hco⟩
  rw[e] at h9;simp only[hk] at h9;exact absurd hfin h9
 ·rw[if_neg hl];simp only;have e:c.tell PAns.zero={ c with state:=2 }:=by
   rw[tell_eq _ rfl hfin h0];simp only;unfold PCo.raise;rw[if_neg (by omega),if_neg (by omega),if_pos (by rfl)]
  refine CoStep.quiet (n:=n) (bk:=bk) h hA hi rfl ?_ ?_ ?_ ?_ hnw ?_ ?_<;>rw[e]
  ·exact⟨hc.me,hc.seen,hc.cells,hc.stripes,hc.was,hc.wasle,by simp,by simp,fun _=>h23,by simp,by simp,by simp,by simp,by simp⟩
  ·intro j;unfold heldI;simp only;exact⟨fun hx=>⟨hx.1,by omega⟩,fun hx=>⟨hx.1,by omega⟩⟩
  ·unfold isW;simp
  ·exact fun h9=>absurd hfin h9
theorem co_step5 (h:LInv m s st H A)(hA:A i=some c)(hi:i<4)(hc:CoOk s i n bk c)(hfin:c.rule.fin=0)(h0:c.state=5):CoStep m s st i H A c (doM m c.next.1).1 (doM m c.next.1).2:=by
 have h5:=hc.s5 h0;have hcl:c.cells.length=2:=by rw[hc.cells];rfl
 have hp:1≤(c.cells.getD c.at_ (0,0)).1∧(c.cells.getD c.at_ (0,0)).1<m.words.length:=by
  have hw:=h.words;rw[hc.cells];rcases(by omega:c.at_=0∨c.at_=1) with e|e
  ·rw[e];show 1≤pa bk∧pa bk<_;have:=pa_or bk;omega
  ·rw[e];show 1≤pb bk∧pb bk<_;have:=pb_or bk;omega
 have hpos:0<c.stripes.length:=by rw[hc.stripes];exact rowOf_pos s bk
 rw[next_eq hfin,h0];simp only;rw[do2 _ _ hp.1 hp.2];simp only;have hwr:=h.wr i c hA (.inl h0);have hval:(c.cells.getD c.at_ (0,0)).2=valOf st H m.clock:=by
  refine hwr.2.2 _ ?_;rw[gD,List.getElem?_eq_getElem (by omega)]
  exact List.getElem_mem _
 have ht:c.tell PAns.zero={ c with at_:=c.at_+1 }.write:=by rw[tell_eq _ rfl hfin h0];rfl
 have hrely:Rely m { m with words:=m.words.set (c.cells.getD c.at_ (0,0)).1 (c.cells.getD c.at_ (0,0)).2 } st H H:=by
  refine .inl ⟨rfl,rfl,fun p hp9=>?_⟩
  simp only;by_cases e9:p=(c.cells.getD c.at_ (0,0)).1
  ·right;rw[e9,getD_set_self _ _ _ _ hp.2];exact hval
  ·exact .inl (getD_set_ne _ _ _ e9)
 by_cases hl:c.at_+1=2
 ·have e:c.tell PAns.zero={ c with at_:=0,state:=6 }:=by
   rw[ht];unfold PCo.write;simp only;rw[if_pos (by omega)]
   unfold PCo.give;simp only;rw[if_neg (by omega)]
  have hco:CoOk s i n bk (c.tell PAns.zero):=by
   rw[e];exact⟨hc.me,hc.seen,hc.cells,hc.stripes,hc.was,hc.wasle,by simp,by simp,by simp,by simp,by simp,fun _=>⟨h5.1,by simp,fun _=>hpos⟩,by simp,by simp⟩
  exact⟨rfl,⟨H,hrely,h.storeWord hA hi hc h0 (by rw[e]) (by rw[e]) (by rw[e]) (by rw[e]) (.inr (by rw[e];exact⟨rfl,rfl,hl⟩)) hco rfl rfl rfl⟩,fun h9=>absurd hfin (by rw[e] at h9;exact h9),n,bk,hco⟩
 ·have e:c.tell PAns.zero={ c with at_:=c.at_+1 }:=by
   rw[ht];unfold PCo.write;simp only;rw[if_neg (by omega)]
  have hco:CoOk s i n bk (c.tell PAns.zero):=by
   rw[e];exact⟨hc.me,hc.seen,hc.cells,hc.stripes,hc.was,hc.wasle,by simp only;omega,by simp only;omega,by simp only;omega,by simp only;omega,fun _=>⟨h5.1,by simp only;omega⟩,by simp only;omega,by simp only;omega,by simp only;omega⟩
  exact⟨rfl,⟨H,hrely,h.storeWord hA hi hc h0 (by rw[e]) (by rw[e]) (by rw[e]) (by rw[e]) (.inl (by rw[e];exact⟨h0,rfl,by omega⟩)) hco rfl rfl rfl⟩,fun h9=>absurd hfin (by rw[e] at h9;exact h9),n,bk,hco⟩
theorem co_step6 (h:LInv m s st H A)(hA:A i=some c)(hi:i<4)(hc:CoOk s i n bk c)(hfin:c.rule.fin=0)(h0:c.state=6):CoStep m s st i H A c (doM m c.next.1).1 (doM m c.next.1).2:=by
 have h6:=hc.s6 h0;have h6':=h6.2.2 hfin;have hL:c.stripes.getD c.at_ 0<m.locks.length:=by rw[h.locks];exact hc.lt h.pos h6'
 have hwr:=h.wr i c hA (.inr ⟨h0,h6'⟩);have hlim:=h.lim;rw[next_eq hfin,h0];simp only;rw[do5 _ _ hL (by unfold PLk.ok;simp;omega)]
 simp only;have ht:c.tell PAns.zero={ c with at_:=c.at_+1 }.give:=by rw[tell_eq _ rfl hfin h0];rfl
 have e:∃k,c.tell PAns.zero={ c with at_:=c.at_+1,rule:=k }∧(k.fin=0→c.at_+1<c.stripes.length)∧(k.fin≠0→c.at_+1=c.stripes.length):=by
  rw[ht];unfold PCo.give;simp only;by_cases h9:c.at_+1=c.stripes.length
  ·rw[if_pos h9];exact⟨_,rfl,by simp[PPat.stop],fun _=>h9⟩
  ·rw[if_neg h9];exact⟨_,rfl,fun _=>by omega,fun h8=>absurd hfin h8⟩
 obtain⟨k,e,hk1,hk2⟩:=e;have hco:CoOk s i n bk (c.tell PAns.zero):=by
  rw[e];exact⟨hc.me,hc.seen,hc.cells,hc.stripes,hc.was,hc.wasle,by simp only;omega,by simp only;omega,by simp only;omega,by simp only;omega,by simp only;omega,fun _=>⟨h6.1,by simp only;omega,hk1⟩,by simp only;omega,by simp only;omega⟩
 refine⟨rfl,⟨H,Rely.same rfl rfl,h.letGo hA hi hc (.inl h0) (by omega) (l:=⟨c.now+1,false,0⟩) rfl rfl (by simp only;omega) (.inl ⟨h0,?_⟩) (by rw[e]) (by rw[e]) (by rw[e]) (by rw[e]) (by rw[e]) (by rw[e]) hco rfl rfl rfl⟩,fun h9=>?_,n,bk,hco⟩
 ·unfold verOf;rw[if_neg (by omega)]
  exact hwr.1.symm
 ·rw[e] at h9 ⊢
  have:=hk2 h9
  refine⟨fun j hj=>?_,fun hw=>?_⟩
  ·have h7:=hj.1;have h8:=hj.2 (.inl h0);simp only at h7 h8;omega
  ·rcases hw with hw|hw
   ·simp only at hw;omega
   ·simp only at hw;omega
theorem co_step7 (h:LInv m s st H A)(hA:A i=some c)(hi:i<4)(hc:CoOk s i n bk c)(hfin:c.rule.fin=0)(h0:c.state=7):CoStep m s st i H A c (doM m c.next.1).1 (doM m c.next.1).2:=by
 have h7:=hc.s7 h0;have h7':=h7.2.1 hfin;have hwl:=hc.wasle;have hL:c.stripes.getD c.at_ 0<m.locks.length:=by rw[h.locks];exact hc.lt h.pos (by omega)
 have hwas:=hc.was (c.was.getD c.at_ PLk.zero) (by rw[gD,List.getElem?_eq_getElem h7'];exact List.getElem_mem _)
 rw[next_eq hfin,h0];simp only;rw[do5 _ _ hL (by unfold PLk.ok;rw[hwas.1,hwas.2.1];simpa using hwas.2.2)]
 simp only;have ht:c.tell PAns.zero={ c with at_:=c.at_+1 }.leave:=by rw[tell_eq _ rfl hfin h0];rfl
 have e:∃k,c.tell PAns.zero={ c with at_:=c.at_+1,rule:=k }∧(k.fin=0→c.at_+1<c.was.length)∧(k.fin≠0→c.at_+1=c.was.length):=by
  rw[ht];unfold PCo.leave;simp only;by_cases h9:c.at_+1=c.was.length
  ·rw[if_pos h9];exact⟨_,rfl,fun h8=>absurd h8 h7.2.2,fun _=>h9⟩
  ·rw[if_neg h9];exact⟨_,rfl,fun _=>by omega,fun h8=>absurd hfin h8⟩
 obtain⟨k,e,hk1,hk2⟩:=e;have hco:CoOk s i n bk (c.tell PAns.zero):=by
  rw[e];exact⟨hc.me,hc.seen,hc.cells,hc.stripes,hc.was,hc.wasle,by simp only;omega,by simp only;omega,by simp only;omega,by simp only;omega,by simp only;omega,by simp only;omega,fun _=>⟨by simp only;omega,hk1,h7.2.2⟩,by simp only;omega⟩
 refine⟨rfl,⟨H,Rely.same rfl rfl,h.letGo hA hi hc (.inr h0) h7' (l:=c.was.getD c.at_ PLk.zero) hwas.1 hwas.2.1 hwas.2.2 (.inr ⟨h0,rfl⟩) (by rw[e]) (by rw[e]) (by rw[e]) (by rw[e]) (by rw[e]) (by rw[e]) hco rfl rfl rfl⟩,fun h9=>?_,n,bk,hco⟩
 rw[e] at h9 ⊢
 have:=hk2 h9
 refine⟨fun j hj=>?_,fun hw=>?_⟩
 ·have h7:=hj.1;have h8:=hj.2 (.inr h0);simp only at h7 h8;omega
 ·rcases hw with hw|hw
  ·simp only at hw;omega
  ·simp only at hw;omega
theorem co_step (h:LInv m s st H A)(hA:A i=some c)(hi:i<4)(hc:CoOk s i n bk c)(hfin:c.rule.fin=0):c.next.2=true∧CoStep m s st i H A c (doM m c.next.1).1 (doM m c.next.1).2:=by
 have h8:=hc.no;refine⟨?_,?_⟩
 ·rw[next_eq hfin];split<;>rfl
 ·rcases(by omega:c.state=0∨c.state=1∨c.state=2∨c.state=3∨c.state=5∨c.state=6∨c.state=7) with h0|h0|h0|h0|h0|h0|h0
  ·exact co_step0 h hA hi hc hfin h0
  ·exact co_step1 h hA hi hc hfin h0
  ·exact co_step2 h hA hi hc hfin h0
  ·exact co_step3 h hA hi hc hfin h0
  ·exact co_step5 h hA hi hc hfin h0
  ·exact co_step6 h hA hi hc hfin h0
  ·exact co_step7 h hA hi hc hfin h0
end
end Prs
end
section
namespace Prs
section
variable {m m' : PMm} {s : PSt} {st i n : Nat} {H H' : List Nat} {A : Nat → Option PCo} {bk : Bool} {x : PAt}
structure KnOk (val:Nat) (v:PVw):Prop where
 nodup:v.order.Nodup
 is:∀q∈v.order,(q=7∨q=12)∧v.facts.getD q none=some val
theorem KnOk.nil {val:Nat}{v:PVw}(h:v.order=[]):KnOk val v:=⟨by rw[h];exact List.nodup_nil,by rw[h];simp⟩
structure FeOk (m:PMm) (s:PSt) (st:Nat) (H:List Nat) (x:PAt) (f:PFe):Prop where
 fin:f.rule.fin=0
 stamp:f.stamp=x.stamp
 at_:f.at_=x.v.need
 stripe:f.stripe=sOf s x.v.need
 need:x.v.need=7∨x.v.need=12
 none:x.v.facts.getD x.v.need none=none
 state:f.state≤2
 lock:f.state=1∨f.state=2→f.lock.held=false∧f.lock.ver=verOf st x.stamp
 s1:f.state=1→m.clock=x.stamp→m.words.getD x.v.need 0=valOf st H x.stamp
 s2:f.state=2→m.clock=x.stamp→f.word=valOf st H x.stamp
structure ExOk (m:PMm) (x:PAt) (e:PEx):Prop where
 fin:e.rule.fin=0
 seen:e.seen=x.reads
 need:x.v.need=7∨x.v.need=12
 none:x.v.facts.getD x.v.need none=none
 ld:e.loaded=true→x.stamp≤e.stamp∧e.stamp≤m.clock∧e.at_<e.seen.length∧(0<e.at_→e.stamp=x.stamp)
 nl:e.loaded=false→e.at_=0
structure RdCore (m:PMm) (s:PSt) (st:Nat) (H:List Nat) (bk:Bool) (x:PAt):Prop where
 it:RdIt bk x.run x.v
 kn:KnOk (valOf st H x.stamp) x.v
 rd:∀r∈x.reads,r.2=verOf st x.stamp∧∃p,(p=7∨p=12)∧r.1=sOf s p
 ne:x.v.order≠[]→x.reads≠[]
 nc:∀c,x.inner≠.commit c
structure RdAt (m:PMm) (s:PSt) (st:Nat) (H:List Nat) (bk:Bool) (x:PAt):Prop extends RdCore m s st H bk x where
 early:x.state≤1→x.v.order=[]∧x.reads=[]
 stp:2≤x.state∧x.state≤4→st≤x.stamp∧x.stamp≤m.clock
 stq:x.v.order≠[]→x.stamp≤m.clock
 state:x.state≤8∧x.state≠5∧x.state≠6
 fe:x.state=3→∃f,x.inner=.fetch f∧FeOk m s st H x f
 ex:x.state=4→∃e,x.inner=.extend e∧ExOk m x e
structure WrAt (s:PSt) (me n:Nat) (bk:Bool) (x:PAt):Prop where
 mee:x.me=me
 order:x.v.order=[]
 reads:x.reads=[]
 early:x.state≤2→WrIt n bk x.run x.v
 state:x.state≤8∧x.state≠3∧x.state≠4∧x.state≠5
 co:x.state=6→∃c,x.inner=.commit c∧c.rule.fin=0∧CoOk s me n bk c
def act (x:PAt):Option PCo:=if x.state=6 then match x.inner with | .commit c=>some c|_=>none else none
theorem act_none (h:x.state≠6):act x=none:=if_neg h
structure SameG (m m':PMm):Prop where
 words:m'.words=m.words
 locks:m'.locks=m.locks
 clock:m'.clock=m.clock
theorem SameG.refl (m:PMm):SameG m m:=⟨rfl,rfl,rfl⟩
def FreeOk (m:PMm)(s:PSt)(st:Nat)(H:List Nat):Prop:=∀p,p=7∨p=12→(m.locks.getD (sOf s p) PLk.zero).held=false→(m.locks.getD (sOf s p) PLk.zero).ver=verOf st m.clock∧m.words.getD p 0=valOf st H m.clock
theorem RdAt.rely (h:RdAt m s st H bk x)(hclk:m.clock=st+H.length)(hr:Rely m m' st H H'):RdAt m' s st H' bk x:=by
 have hle:m.clock≤m'.clock:=by rcases hr with⟨h1,_⟩|⟨h1,_⟩<;>omega
 have hval:x.stamp≤m.clock→valOf st H' x.stamp=valOf st H x.stamp:=fun h9=>by
  rcases hr with⟨_,rfl,_⟩|⟨_,k,rfl⟩
  ·rfl
  ·exact valOf_app (by omega)
 refine⟨⟨h.it,?_,h.rd,h.ne,h.nc⟩,h.early,fun h9=>⟨(h.stp h9).1,Nat.le_trans (h.stp h9).2 hle⟩,fun h9=>Nat.le_trans (h.stq h9) hle,h.state,fun h9=>?_,fun h9=>?_⟩
 ·by_cases ho:x.v.order=[]
  ·exact KnOk.nil ho
  ·rw[hval (h.stq ho)];exact h.kn
 ·obtain⟨f,hf1,hf⟩:=h.fe h9;have hst:=h.stp (by omega)
  refine⟨f,hf1,hf.fin,hf.stamp,hf.at_,hf.stripe,hf.need,hf.none,hf.state,hf.lock,fun h1 h2=>?_,fun h1 h2=>?_⟩
  ·rw[hval hst.2];rcases hr with⟨h3,rfl,h4⟩|⟨h3,_⟩
   ·have h5:=hf.s1 h1 (by omega)
    rcases h4 _ hf.need with h6|h6
    ·rw[h6];exact h5
    ·rw[h6,←h2,h3]
   ·omega
  ·rw[hval hst.2];rcases hr with⟨h3,rfl,h4⟩|⟨h3,_⟩
   ·exact hf.s2 h1 (by omega)
   ·omega
 ·obtain⟨e,he1,he⟩:=h.ex h9;exact⟨e,he1,he.fin,he.seen,he.need,he.none,fun h1=>by have:=he.ld h1;exact⟨this.1,by omega,this.2.2.1,this.2.2.2⟩,he.nl⟩
theorem rd_out (hc:RdCore m s st H bk x)(h1:x.stamp≤m.clock)(f e:Nat)(b:Int):RdAt m s st H bk (x.out f e b) :=
 ⟨⟨hc.it,hc.kn,hc.rd,hc.ne,hc.nc⟩,by simp[PAt.out],by simp[PAt.out],fun _=>h1,by simp[PAt.out],by simp[PAt.out],by simp[PAt.out]⟩
theorem rd_ask (hc:RdCore m s st H bk x)(h0:st≤x.stamp)(h1:x.stamp≤m.clock)(hn:x.v.need=7∨x.v.need=12)(hf:x.v.facts.getD x.v.need none=none):RdAt m s st H bk (x.ask s x.v.need) :=
 ⟨⟨hc.it,hc.kn,hc.rd,hc.ne,by simp[PAt.ask]⟩,by simp[PAt.ask],fun _=>⟨h0,h1⟩,fun _=>h1,by simp[PAt.ask],fun _=>⟨_,rfl,rfl,rfl,rfl,rfl,hn,hf,by simp[PFe.new],by simp[PFe.new],by simp[PFe.new],by simp[PFe.new]⟩,by simp[PAt.ask]⟩
theorem rd_later (hc:RdCore m s st H bk x)(h0:st≤x.stamp)(h1:x.stamp≤m.clock)(hn:x.v.need=7∨x.v.need=12)(hf:x.v.facts.getD x.v.need none=none):RdAt m s st H bk (x.later s 4) :=
 ⟨⟨hc.it,hc.kn,hc.rd,hc.ne,by simp[PAt.later]⟩,by simp[PAt.later],fun _=>⟨h0,h1⟩,fun _=>h1,by simp[PAt.later],by simp[PAt.later],fun _=>⟨_,rfl,rfl,rfl,hn,hf,by simp[PEx.new],fun _=>rfl⟩⟩
theorem rd_work (hc:RdCore m s st H bk x)(h0:st≤x.stamp)(h1:x.stamp≤m.clock):RdAt m s st H bk (x.work s):=by
 have hr:RdRun bk x.v (x.run.run x.v):=rd_runF _ _ _ hc.it;unfold PAt.work;obtain⟨r,hR⟩:∃r,x.run.run x.v=r:=⟨_,rfl⟩;rw[hR] at hr ⊢;obtain⟨k,y,v⟩:=r;have hc':RdCore m s st H bk { x with run:=y,v:=v }:=by
  have q2:=hr.facts;have q3:=hr.order;simp only at q2 q3;exact⟨hr.it,⟨by simp only;rw[q3];exact hc.kn.nodup,fun q hq=>by simp only at hq ⊢;rw[q3] at hq;rw[q2];exact hc.kn.is q hq⟩,hc.rd,fun h9=>by simp only at h9;rw[q3] at h9;exact hc.ne h9,hc.nc⟩
 have hn3:=hr.no3;have hnd:=hr.need;have hfa:=hr.facts;simp only at hn3 hnd hfa ⊢;split
 ·have h9:=hnd rfl;exact rd_ask (x:={ x with run:=y,v:=v }) hc' h0 h1 h9.1 (by simp only;rw[hfa];exact h9.2)
 ·exact absurd rfl hn3
 ·exact rd_out hc' h1 _ _ _
 ·rw[cells_nil v.logs hr.it.rows];simp only[if_true];exact rd_out hc' h1 _ _ _
theorem getD_set_lt {α}(l:List α)(k j:Nat)(x d:α):(l.set k x).getD j d=if j=k∧k<l.length then x else l.getD j d:=by
 by_cases h:j=k
 ·subst h;by_cases h2:j<l.length
  ·rw[if_pos ⟨rfl,h2⟩,getD_set_self _ _ _ _ h2]
  ·rw[if_neg (by omega),gD,List.getElem?_eq_none (by simpa using h2),gD,List.getElem?_eq_none (by omega)]
 ·rw[if_neg (fun h9=>h h9.1),getD_set_ne _ _ _ h]
theorem rd_fetched {f:PFe}(hc:RdCore m s st H bk x)(h0:st≤x.stamp)(h1:x.stamp≤m.clock)(hn:x.v.need=7∨x.v.need=12)(hf:x.v.facts.getD x.v.need none=none)
  (h6:f.rule.fin≠0) (h5:f.rule.fin≠5) (h2:f.rule.fin=2→f.stripe=sOf s x.v.need∧f.lock.ver=verOf st x.stamp∧f.word=valOf st H x.stamp) (h26:f.rule.fin=2∨f.rule.fin=6):RdAt m s st H bk (x.fetched s f):=by
 unfold PAt.fetched;by_cases e6:f.rule.fin=6
 ·rw[if_pos e6];exact rd_later hc h0 h1 hn hf
 ·rw[if_neg e6];have e2:f.rule.fin=2:=by omega
  obtain⟨q1,q2,q3⟩:=h2 e2;simp only[if_pos e2];rw[q1,q2,q3];have hrd:∃k l,rdAdd x.reads (sOf s x.v.need,verOf st x.stamp)=(k,l)∧(∀r∈l,r.2=verOf st x.stamp∧∃p,(p=7∨p=12)∧r.1=sOf s p)∧(x.v.order≠[]→l≠[])∧(k=0→l≠[]):=by
   unfold rdAdd;split
   ·exact⟨_,_,rfl,hc.rd,hc.ne,by simp⟩
   ·split
    ·rename_i v hv;refine⟨_,_,rfl,hc.rd,hc.ne,fun _ h9=>?_⟩
     unfold rdGet at hv;rw[h9] at hv;simp at hv
    ·split
     ·exact⟨_,_,rfl,hc.rd,hc.ne,by simp⟩
     ·refine⟨_,_,rfl,fun r hr=>?_,by simp,by simp⟩
      simp only[List.mem_append,List.mem_singleton] at hr;rcases hr with hr|rfl
      ·exact hc.rd r hr
      ·exact⟨rfl,_,hn,rfl⟩
  obtain⟨k,l,hk,r1,r2,r3⟩:=hrd;rw[hk];simp only;have hc':RdCore m s st H bk { x with reads:=l }:=⟨hc.it,hc.kn,r1,r2,hc.nc⟩
  by_cases k0:k=0
  ·rw[if_pos k0];have hs:=hc.it.size;have e3:x.v.is x.v.need=true:=by unfold PVw.is;simp;omega
   have e:x.v.know x.v.need (valOf st H x.stamp)=(0,{ x.v with facts:=x.v.facts.set x.v.need (some (valOf st H x.stamp)),order:=x.v.order++[x.v.need] }):=by
    unfold PVw.know;rw[if_neg (by simp[e3]),hf]
   rw[e];refine rd_work (x:={ x with reads:=l,v:={ x.v with facts:=x.v.facts.set x.v.need (some (valOf st H x.stamp)),order:=x.v.order++[x.v.need] } }) ⟨⟨hc.it.code,hc.it.regs,hc.it.zero,hc.it.place,hc.it.fin,hc.it.rows,by simpa using hs⟩,⟨?_,fun q hq=>?_⟩,r1,fun _=>r3 k0,hc.nc⟩ h0 h1
   ·simp only;rw[List.nodup_append];refine⟨hc.kn.nodup,by simp,fun a ha b hb=>?_⟩
    simp at hb;subst hb;intro e9
    have:=(hc.kn.is a ha).2
    rw[e9,hf] at this;cases this
   ·simp only[List.mem_append,List.mem_singleton] at hq ⊢;rw[getD_set_lt];rcases hq with hq|rfl
    ·have:=hc.kn.is q hq
     refine⟨this.1,?_⟩;split
     ·rfl
     ·exact this.2
    ·exact⟨hn,by rw[if_pos ⟨rfl,by omega⟩]⟩
  ·rw[if_neg k0];split
   ·exact rd_out hc' h1 _ _ _
   ·exact rd_out hc' h1 _ _ _
theorem rd_nw (hc:RdCore m s st H bk x):x.writing=false:=by
 unfold PAt.writing;cases hi:x.inner with
 |commit c=>exact absurd hi (hc.nc c)
 |_=>simp
theorem told_rd {y:PAt}(hy:RdAt m s st H bk y)(e:(if x.inner.rule.fin=0 then x else if x.inner.rule.fin=5 then x.out 5 0 x.inner.rule.by_ else x.ended s)=y):RdAt m s st H bk (x.told s):=by
 unfold PAt.told;simp only;rw[e,rd_nw hy.toRdCore];simpa using hy
theorem rd_gone (hc:RdCore m s st H bk x)(h1:x.v.order≠[]→x.stamp≤m.clock)(f e:Nat)(b:Int):RdAt m s st H bk { x.out f e b with state:=8 } :=
 ⟨⟨hc.it,hc.kn,hc.rd,hc.ne,hc.nc⟩,by simp,by simp,h1,by simp,by simp,by simp⟩
theorem at_tell_err {a:PAns}(h8:x.state≠8)(ha:a.err≠0):x.tell s a={ x.out 4 a.err (-1) with state:=8 }:=by
 unfold PAt.tell;rw[if_neg h8,if_pos ha]
theorem at_tell_eq {a:PAns}{k:Nat}(hk:x.state=k)(h8:k≠8)(ha:a.err=0):x.tell s a=match (generalizing:=false) k with
 |0=>{ x with state:=1 }
 |1=>{ x with begun:=true,begin:=a.word,stamp:=a.word,state:=2 }
 |2=>x.work s
 |7=>{ x with state:=8 }
 |_=>{ x with inner:=x.inner.tell a }.told s:=by
 subst hk;unfold PAt.tell;rw[if_neg h8,if_neg (by simp[ha])]
 rfl
theorem at_next_eq {k:Nat}(hk:x.state=k):x.next=match (generalizing:=false) k with
 |0=>({ POp.at' 9 x.me with word:=1 },true)
 |1=>(POp.at' 6 0,true)
 |2=>({ POp.at' 9 x.me with word:=x.stamp+1 },true)
 |7=>(POp.at' 9 x.me,true)
 |8=>(POp.zero,false)
 |_=>x.inner.next:=by
 subst hk;rfl
theorem do9 (p k:Nat):SameG m (doM m { POp.at' 9 p with word:=k }).2:=by
 show SameG m (if p<m.since.length then _ else _:PAns×PMm).2
 split
 ·exact⟨rfl,rfl,rfl⟩
 ·exact⟨rfl,rfl,rfl⟩
theorem do9' (p:Nat):SameG m (doM m (POp.at' 9 p)).2:=do9 p 0
theorem do1 (p:Nat):doM m (POp.at' 1 p)=if 1≤p∧p<m.words.length then({ PAns.zero with word:=m.words.getD p 0 },m) else({ PAns.zero with err:=2 },m):=rfl
theorem do3' (p:Nat):doM m (POp.at' 3 p)=if p<m.locks.length then({ PAns.zero with lock:=m.locks.getD p PLk.zero },m) else({ PAns.zero with err:=2 },m):=rfl
theorem FeOk.inner {f:PFe}(h:FeOk m s st H x f)(y:PIn):FeOk m s st H { x with inner:=y } f:=⟨h.fin,h.stamp,h.at_,h.stripe,h.need,h.none,h.state,h.lock,h.s1,h.s2⟩
theorem ExOk.inner {e:PEx}(h:ExOk m x e)(y:PIn):ExOk m { x with inner:=y } e:=⟨h.fin,h.seen,h.need,h.none,h.ld,h.nl⟩
theorem RdCore.inner (h:RdCore m s st H bk x)(y:PIn)(hy:∀c,y≠.commit c):RdCore m s st H bk { x with inner:=y }:=⟨h.it,h.kn,h.rd,h.ne,hy⟩
theorem hear_ok {p:PPat}{a:PAns}(ha:a.err=0):p.hear a=p:=by unfold PPat.hear;rw[if_neg (fun h9=>h9.2 ha)]
theorem fe_tell {f:PFe}(h:FeOk m s st H x f)(hf:FreeOk m s st H)(h0:st≤x.stamp)(h1:x.stamp≤m.clock)(ha:(doM m f.next.1).1.err=0):
  (doM m f.next.1).2=m∧((f.tell (doM m f.next.1).1).rule.fin=0∧FeOk m s st H x (f.tell (doM m f.next.1).1)∨(f.tell (doM m f.next.1).1).rule.fin=5∨(f.tell (doM m f.next.1).1).rule.fin=6 ∨
   (f.tell (doM m f.next.1).1).rule.fin=2∧(f.tell (doM m f.next.1).1).stripe=sOf s x.v.need∧(f.tell (doM m f.next.1).1).lock.ver=verOf st x.stamp∧(f.tell (doM m f.next.1).1).word=valOf st H x.stamp):=by
 have hfin:=h.fin;have hle:=h.state;by_cases hs1:f.state=1
 ·have e:f.next=(POp.at' 1 f.at_,true):=by
   unfold PFe.next;rw[if_neg (by simp[hfin]),if_pos hs1]
  rw[e] at ha ⊢;simp only at ha ⊢;rw[do1] at ha ⊢;by_cases hb:1≤f.at_∧f.at_<m.words.length
  ·rw[if_pos hb] at ha ⊢;refine⟨rfl,.inl ?_⟩;have e2:f.tell { PAns.zero with word:=m.words.getD f.at_ 0 }={ f with word:=m.words.getD f.at_ 0,state:=2 }:=by
    unfold PFe.tell;rw[hear_ok rfl];simp only;rw[if_neg (by simp[hfin]),if_pos hs1]
   simp only;rw[e2];exact⟨hfin,hfin,h.stamp,h.at_,h.stripe,h.need,h.none,by simp,fun _=>h.lock (.inl hs1),by simp,fun _ h9=>by simp only;rw[h.at_];exact h.s1 hs1 h9⟩
  ·rw[if_neg hb] at ha;cases ha
 ·have e:f.next=(POp.at' 3 f.stripe,true):=by
   unfold PFe.next;rw[if_neg (by simp[hfin]),if_neg hs1]
  rw[e] at ha ⊢;simp only at ha ⊢;rw[do3'] at ha ⊢;by_cases hb:f.stripe<m.locks.length
  ·rw[if_pos hb] at ha ⊢;refine⟨rfl,?_⟩;simp only;have hfr:=hf x.v.need h.need;rw[←h.stripe] at hfr;generalize m.locks.getD f.stripe PLk.zero=l at *
   have e2:f.tell { PAns.zero with lock:=l }=if f.state=2∧l=f.lock then { f with rule:=f.rule.stop 2 0 (-1) } else f.found l:=by
    unfold PFe.tell;rw[hear_ok rfl];simp only;rw[if_neg (by simp[hfin]),if_neg hs1]
   rw[e2];by_cases h2:f.state=2∧l=f.lock
   ·rw[if_pos h2];obtain⟨h2,rfl⟩:=h2;have h3:=h.lock (.inr h2);have h4:=hfr h3.1;refine .inr (.inr (.inr ⟨rfl,h.stripe,h3.2,h.s2 h2 ?_⟩));exact verOf_inj (by omega) h0 (h4.1.symm.trans h3.2)
   ·rw[if_neg h2];unfold PFe.found;simp only;by_cases hl:l.held=true
    ·rw[if_pos hl];split
     ·exact .inl ⟨by simp only[waits_fin];exact hfin,by simp only[waits_fin];exact hfin,h.stamp,h.at_,h.stripe,h.need,h.none,by simp,by simp,by simp,by simp⟩
     ·exact .inr (.inl rfl)
    ·rw[if_neg hl];have hl':l.held=false:=by simpa using hl
     obtain⟨r1,r2⟩:=hfr hl';split
     ·exact .inr (.inr (.inl rfl))
     ·rename_i h9;have h8:m.clock=x.stamp:=verOf_le (by omega) h0 h1 (by rw[←r1,←h.stamp];omega)
      refine .inl ⟨hfin,hfin,h.stamp,h.at_,h.stripe,h.need,h.none,by simp,fun _=>⟨hl',by simp only;rw[r1,h8]⟩,fun _ h9=>by rw[r2,h8],by simp⟩
  ·rw[if_neg hb] at ha;cases ha
theorem ex_tell {e:PEx}(h:ExOk m x e)(hrd:∀r∈x.reads,r.2=verOf st x.stamp∧∃p,(p=7∨p=12)∧r.1=sOf s p)(hf:FreeOk m s st H)(h0:st≤x.stamp)(h1:x.stamp≤m.clock)(ha:(doM m e.next.1).1.err=0):
  (doM m e.next.1).2=m∧((e.tell (doM m e.next.1).1).rule.fin=0∧ExOk m x (e.tell (doM m e.next.1).1)∨(e.tell (doM m e.next.1).1).rule.fin=5 ∨
   (e.tell (doM m e.next.1).1).rule.fin=2∧st≤(e.tell (doM m e.next.1).1).stamp∧(e.tell (doM m e.next.1).1).stamp≤m.clock∧(x.reads=[]∨(e.tell (doM m e.next.1).1).stamp=x.stamp)):=by
 have hfin:=h.fin;have hsn:=h.seen;cases hld:e.loaded with
 |false =>
  have e1:e.next=(POp.at' 6 0,true):=by
   unfold PEx.next;rw[if_neg (by simp[hfin]),if_neg (by simp[hld])]
  have hn:=h.nl hld;rw[e1];refine⟨rfl,?_⟩;have e2:e.tell (doM m (POp.at' 6 0)).1={ e with loaded:=true,stamp:=m.clock }.over:=by
   unfold PEx.tell;rw[hear_ok rfl];simp only;rw[if_neg (by simp[hfin]),if_pos hld]
   rfl
  simp only;rw[e2];unfold PEx.over;simp only;by_cases h9:e.at_=e.seen.length
  ·rw[if_pos h9];refine .inr (.inr ⟨rfl,by simp only;omega,Nat.le_refl _,.inl ?_⟩)
   rw[←hsn];exact List.length_eq_zero_iff.1 (by omega)
  ·rw[if_neg h9];exact .inl ⟨hfin,hfin,hsn,h.need,h.none,fun _=>⟨h1,Nat.le_refl _,by simp only;omega,fun h8=>by simp only at h8;omega⟩,by simp⟩
 |true =>
  obtain⟨q1,q2,q3,q4⟩:=h.ld hld;have e1:e.next=(POp.at' 3 (e.seen.getD e.at_ (0,0)).1,true):=by
   unfold PEx.next;rw[if_neg (by simp[hfin]),if_pos hld]
  rw[e1] at ha ⊢;simp only at ha ⊢;rw[do3'] at ha ⊢;have hmem:e.seen.getD e.at_ (0,0)∈x.reads:=by
   rw[←hsn,gD,List.getElem?_eq_getElem q3];exact List.getElem_mem _
  obtain⟨r1,p,hp,r2⟩:=hrd _ hmem;by_cases hb:(e.seen.getD e.at_ (0,0)).1<m.locks.length
  ·rw[if_pos hb] at ha ⊢;refine⟨rfl,?_⟩;simp only;have hfr:=hf p hp;rw[←r2] at hfr;generalize m.locks.getD (e.seen.getD e.at_ (0,0)).1 PLk.zero=l at *
   have e2:e.tell { PAns.zero with lock:=l }=if l.held=true then(if(e.rule.waits l).1=true then { e with rule:=(e.rule.waits l).2 } else { e with rule:=(e.rule.waits l).2.stop 5 0 l.own }) else if l.ver≠(e.seen.getD e.at_ (0,0)).2 then { e with rule:=e.rule.stop 5 0 (-1) } else { e with at_:=e.at_+1 }.over:=by
    unfold PEx.tell;rw[hear_ok rfl];simp only;rw[if_neg (by simp[hfin]),if_neg (by simp[hld])]
   rw[e2];by_cases hl:l.held=true
   ·rw[if_pos hl];split
    ·exact .inl ⟨by simp only[waits_fin];exact hfin,by simp only[waits_fin];exact hfin,hsn,h.need,h.none,fun _=>⟨q1,q2,q3,q4⟩,fun h9=>h.nl h9⟩
    ·exact .inr (.inl rfl)
   ·rw[if_neg hl];have hl':l.held=false:=by simpa using hl
    by_cases hv:l.ver≠(e.seen.getD e.at_ (0,0)).2
    ·rw[if_pos hv];exact .inr (.inl rfl)
    ·rw[if_neg hv];have hv':l.ver=verOf st x.stamp:=by rw[←r1];simpa using hv
     have hcl:m.clock=x.stamp:=verOf_inj (by omega) h0 ((hfr hl').1.symm.trans hv')
     unfold PEx.over;simp only;by_cases h9:e.at_+1=e.seen.length
     ·rw[if_pos h9];exact .inr (.inr ⟨rfl,by simp only;omega,by simp only;omega,.inr (by simp only;omega)⟩)
     ·rw[if_neg h9];exact .inl ⟨hfin,hfin,hsn,h.need,h.none,fun _=>⟨q1,q2,by simp only;omega,fun _=>by simp only;omega⟩,fun h8=>by simp only at h8;rw[hld] at h8;cases h8⟩
  ·rw[if_neg hb] at ha;cases ha
theorem rd_step (h:RdAt m s st H bk x)(hf:FreeOk m s st H)(hclk:st≤m.clock)(h8:x.state≠8):
  x.next.2=true∧SameG m (doM m x.next.1).2∧RdAt m s st H bk (x.tell s (doM m x.next.1).1):=by
 have hst:=h.state;have err:∀a:PAns,a.err≠0→RdAt m s st H bk (x.tell s a):=fun a ha=>by
  rw[at_tell_err h8 ha];exact rd_gone h.toRdCore h.stq _ _ _
 rcases(by omega:x.state=0∨x.state=1∨x.state=2∨x.state=3∨x.state=4∨x.state=7) with h0|h0|h0|h0|h0|h0
 ·rw[at_next_eq h0];refine⟨rfl,do9 _ _,?_⟩;simp only;generalize (doM m { POp.at' 9 x.me with word:=1 }).1=a
  by_cases ha:a.err=0
  ·rw[at_tell_eq h0 (by omega) ha]
   have he:=h.early (by omega)
   exact⟨⟨h.it,h.kn,h.rd,h.ne,h.nc⟩,fun _=>he,by simp,fun h9=>absurd he.1 h9,by simp,by simp,by simp⟩
  ·exact err a ha
 ·rw[at_next_eq h0];refine⟨rfl,SameG.refl m,?_⟩;have he:=h.early (by omega)
  rw[at_tell_eq h0 (by omega) rfl]
  refine⟨⟨h.it,KnOk.nil he.1,?_,h.ne,h.nc⟩,by simp,fun _=>⟨hclk,Nat.le_refl _⟩,fun h9=>absurd he.1 h9,by simp,by simp,by simp⟩
  intro r hr;simp only at hr;rw[he.2] at hr;cases hr
 ·rw[at_next_eq h0];refine⟨rfl,do9 _ _,?_⟩;simp only;generalize (doM m { POp.at' 9 x.me with word:=x.stamp+1 }).1=a
  by_cases ha:a.err=0
  ·rw[at_tell_eq h0 (by omega) ha]
   have hs:=h.stp (by omega)
   exact rd_work h.toRdCore hs.1 hs.2
  ·exact err a ha
 ·obtain⟨f,hin,hfe⟩:=h.fe h0;have hs:=h.stp (by omega)
  rw[at_next_eq h0];simp only[hin,PIn.next];have hn2:f.next.2=true:=by unfold PFe.next;rw[if_neg (by simp[hfe.fin])];split<;>rfl
  refine⟨hn2,?_⟩;by_cases ha:(doM m f.next.1).1.err=0
  ·obtain⟨q1,q2⟩:=fe_tell hfe hf hs.1 hs.2 ha;refine⟨by rw[q1];exact SameG.refl m,?_⟩
   rw[at_tell_eq h0 (by omega) ha]
   simp only[hin,PIn.tell];generalize f.tell (doM m f.next.1).1=f' at *
   have hc':RdCore m s st H bk { x with inner:=.fetch f' }:=h.toRdCore.inner _ (by simp)
   rcases q2 with⟨a1,a2⟩|a1|a1|⟨a1,a2⟩
   ·refine told_rd (y:={ x with inner:=.fetch f' }) ⟨hc',by simp only;omega,fun _=>hs,fun _=>hs.2,hst,fun _=>⟨f',rfl,a2.inner _⟩,by simp only;omega⟩ ?_
    exact if_pos a1
   ·refine told_rd (rd_out hc' hs.2 5 0 f'.rule.by_) ?_;exact(if_neg (show ¬f'.rule.fin=0 by omega)).trans (if_pos a1)
   ·refine told_rd (rd_fetched (f:=f') hc' hs.1 hs.2 hfe.need hfe.none (by omega) (by omega) (by omega) (by omega)) ?_
    exact(if_neg (show ¬f'.rule.fin=0 by omega)).trans (if_neg (show ¬f'.rule.fin=5 by omega))
   ·refine told_rd (rd_fetched (f:=f') hc' hs.1 hs.2 hfe.need hfe.none (by omega) (by omega) (fun _=>a2) (by omega)) ?_
    exact(if_neg (show ¬f'.rule.fin=0 by omega)).trans (if_neg (show ¬f'.rule.fin=5 by omega))
  ·refine⟨?_,err _ ha⟩
   have:(doM m f.next.1).2=m:=by
    unfold PFe.next;rw[if_neg (by simp[hfe.fin])]
    split
    ·rw[do1];split<;>rfl
    ·rw[do3'];split<;>rfl
   rw[this];exact SameG.refl m
 ·obtain⟨e,hin,hex⟩:=h.ex h0;have hs:=h.stp (by omega)
  rw[at_next_eq h0];simp only[hin,PIn.next];have hn2:e.next.2=true:=by unfold PEx.next;rw[if_neg (by simp[hex.fin])];split<;>rfl
  refine⟨hn2,?_⟩;by_cases ha:(doM m e.next.1).1.err=0
  ·obtain⟨q1,q2⟩:=ex_tell hex h.rd hf hs.1 hs.2 ha;refine⟨by rw[q1];exact SameG.refl m,?_⟩
   rw[at_tell_eq h0 (by omega) ha]
   simp only[hin,PIn.tell];generalize e.tell (doM m e.next.1).1=e' at *
   have hc':RdCore m s st H bk { x with inner:=.extend e' }:=h.toRdCore.inner _ (by simp)
   rcases q2 with⟨a1,a2⟩|a1|⟨a1,a2,a3,a4⟩
   ·refine told_rd (y:={ x with inner:=.extend e' }) ⟨hc',by simp only;omega,fun _=>hs,fun _=>hs.2,hst,by simp only;omega,fun _=>⟨e',rfl,a2.inner _⟩⟩ ?_
    exact if_pos a1
   ·refine told_rd (rd_out hc' hs.2 5 0 e'.rule.by_) ?_;exact(if_neg (show ¬e'.rule.fin=0 by omega)).trans (if_pos a1)
   ·have hc2:RdCore m s st H bk { x with inner:=.extend e',stamp:=e'.stamp }:=by
     rcases a4 with a4|a4
     ·have ho:x.v.order=[]:=by
       by_cases h9:x.v.order=[]
       ·exact h9
       ·exact absurd a4 (h.ne h9)
      exact⟨h.it,KnOk.nil ho,fun r hr=>(by rw[show({ x with inner:=PIn.extend e',stamp:=e'.stamp }:PAt).reads=[] from a4] at hr;cases hr),h.ne,by simp⟩
     ·rw[a4];exact hc'
    refine told_rd (rd_ask (x:={ x with inner:=.extend e',stamp:=e'.stamp }) hc2 a2 a3 hex.need hex.none) ?_
    refine((if_neg (show ¬e'.rule.fin=0 by omega)).trans (if_neg (show ¬e'.rule.fin=5 by omega))).trans ?_
    unfold PAt.ended;simp only;rw[if_pos a1,if_pos h0]
  ·refine⟨?_,err _ ha⟩
   have:(doM m e.next.1).2=m:=by
    unfold PEx.next;rw[if_neg (by simp[hex.fin])]
    split
    ·rw[do3'];split<;>rfl
    ·rfl
   rw[this];exact SameG.refl m
 ·rw[at_next_eq h0];refine⟨rfl,do9' _,?_⟩;simp only;generalize (doM m (POp.at' 9 x.me)).1=a;by_cases ha:a.err=0
  ·rw[at_tell_eq h0 (by omega) ha]
   exact⟨⟨h.it,h.kn,h.rd,h.ne,h.nc⟩,by simp,by simp,h.stq,by simp,by simp,by simp⟩
  ·exact err a ha
end
end Prs
end
section
namespace Prs
section
variable {m m' : PMm} {s : PSt} {st i n : Nat} {H H' : List Nat} {A : Nat → Option PCo} {bk : Bool} {x : PAt}
theorem told_is (x:PAt)(s:PSt):∃k,x.told s={ (if x.inner.rule.fin=0 then x else if x.inner.rule.fin=5 then x.out 5 0 x.inner.rule.by_ else x.ended s) with stamp:=k }:=by
 unfold PAt.told;simp only;generalize (if x.inner.rule.fin=0 then x else if x.inner.rule.fin=5 then x.out 5 0 x.inner.rule.by_ else x.ended s)=y
 by_cases h:y.writing=true
 ·rw[if_pos h];exact⟨_,rfl⟩
 ·rw[if_neg h];exact⟨y.stamp,rfl⟩
theorem wr_gone (h:WrAt s i n bk x)(f e:Nat)(b:Int):WrAt s i n bk { x.out f e b with state:=8 } :=
 ⟨h.mee,h.order,h.reads,by simp,by simp,by simp⟩
theorem wr_work (h:WrAt s i n bk x)(h2:x.state=2):WrAt s i n bk (x.work s)∧(act (x.work s)=none∨∃c,act (x.work s)=some c∧CoOk s i n bk c∧(∀j,¬heldI c j)∧¬isW c):=by
 have hr:WrRun n bk x.v (x.run.run x.v):=wr_runF _ _ _ (h.early (by omega)) (by omega)
 unfold PAt.work;obtain⟨r,hR⟩:∃r,x.run.run x.v=r:=⟨_,rfl⟩;rw[hR] at hr ⊢;obtain⟨k,y,v⟩:=r;have q1:=hr.order;have q2:=hr.fin;simp only at q1 q2 ⊢;have hout:∀f e b,WrAt s i n bk (PAt.out { x with run:=y,v:=v } f e b):=fun f e b=>⟨h.mee,by simp only[PAt.out];rw[q1];exact h.order,h.reads,by simp[PAt.out],by simp[PAt.out],by simp[PAt.out]⟩
 rcases q2 with⟨rfl,q2⟩|rfl
 ·simp only;rw[wr_cells n bk v.logs q2];rw[if_neg (by simp)]
  have hpos:=rowOf_pos s bk;have hst:(PCo.new x.me s.spins x.stamp x.reads [(pa bk,n),(pb bk,n)] s.stripes s.wide).state=0:=by
   unfold PCo.new PCo.more;simp only;rw[if_neg (by rw[rowOf_eq];simp;omega)]
  have hco:CoOk s i n bk (PCo.new x.me s.spins x.stamp x.reads [(pa bk,n),(pb bk,n)] s.stripes s.wide):=by
   refine⟨h.mee,h.reads,rfl,rowOf_eq s n bk,(by intro l hl;cases hl),Nat.zero_le _,fun _=>⟨?_,rfl⟩,by omega,by omega,by omega,by omega,by omega,by omega,by omega⟩
   show 0<(stripesOf _ _ _).length
   rw[rowOf_eq];exact hpos
  refine⟨⟨h.mee,by simp only;rw[q1];exact h.order,h.reads,by simp,by simp,fun _=>⟨_,rfl,rfl,hco⟩⟩,.inr ⟨_,rfl,hco,fun j hj=>?_,?_⟩⟩
  ·exact absurd hj.1 (Nat.not_lt_zero _)
  ·unfold isW;omega
 ·exact⟨hout _ _ _,.inl (act_none (by simp[PAt.out]))⟩
theorem upd_eq (hA:A i=none):∀k,upd A i none k=A k:=fun k=>by
 by_cases e:k=i
 ·subst e;rw[upd_self,hA]
 ·exact upd_ne A _ e
theorem wr_step (h:LInv m s st H A)(hi:i<4)(hx:WrAt s i n bk x)(hA:A i=act x)(h8:x.state≠8):
  x.next.2=true∧∃H',Rely m (doM m x.next.1).2 st H H'∧LInv (doM m x.next.1).2 s st H' (upd A i (act (x.tell s (doM m x.next.1).1)))∧∃n bk,WrAt s i n bk (x.tell s (doM m x.next.1).1):=by
 have hst:=hx.state;have quiet:∀(m':PMm),SameG m m'→∀y,x.state≠6→act y=none→WrAt s i n bk y→∃H',Rely m m' st H H'∧LInv m' s st H' (upd A i (act y))∧∃n bk,WrAt s i n bk y:=fun m' hg y h6 hy hw=>by
  rw[act_none h6] at hA;rw[hy];exact⟨H,Rely.same hg.words hg.clock,(h.congr hg.words hg.locks hg.clock).congrA (upd_eq hA),n,bk,hw⟩
 have err:∀(m':PMm),SameG m m'→∀a:PAns,x.state≠6→a.err≠0→∃H',Rely m m' st H H'∧LInv m' s st H' (upd A i (act (x.tell s a)))∧∃n bk,WrAt s i n bk (x.tell s a):=fun m' hg a h6 ha=>by
  rw[at_tell_err h8 ha];exact quiet m' hg _ h6 (act_none (by simp)) (wr_gone hx _ _ _)
 rcases(by omega:x.state=0∨x.state=1∨x.state=2∨x.state=6∨x.state=7) with h0|h0|h0|h0|h0
 ·rw[at_next_eq h0];refine⟨rfl,?_⟩;have hg:=do9 (m:=m) x.me 1;simp only;generalize (doM m { POp.at' 9 x.me with word:=1 }).1=a
  by_cases ha:a.err=0
  ·rw[at_tell_eq h0 (by omega) ha]
   exact quiet _ hg _ (by omega) (act_none (by simp)) ⟨hx.mee,hx.order,hx.reads,fun _=>hx.early (by omega),by simp,by simp⟩
  ·exact err _ hg a (by omega) ha
 ·rw[at_next_eq h0];refine⟨rfl,?_⟩;rw[at_tell_eq h0 (by omega) rfl]
  exact quiet _ (SameG.refl m) _ (by omega) (act_none (by simp)) ⟨hx.mee,hx.order,hx.reads,fun _=>hx.early (by omega),by simp,by simp⟩
 ·rw[at_next_eq h0];refine⟨rfl,?_⟩;have hg:=do9 (m:=m) x.me (x.stamp+1);simp only;generalize (doM m { POp.at' 9 x.me with word:=x.stamp+1 }).1=a
  by_cases ha:a.err=0
  ·rw[at_tell_eq h0 (by omega) ha]
   obtain⟨q1,q2⟩:=wr_work (s:=s) hx h0;rcases q2 with q2|⟨c,q2,q3,q4,q5⟩
   ·exact quiet _ hg _ (by omega) q2 q1
   ·refine⟨H,Rely.same hg.words hg.clock,?_,n,bk,q1⟩;simp only;rw[q2];exact(h.congr hg.words hg.locks hg.clock).begin (by rw[hA,act_none (by omega)]) hi q3 q4 q5
  ·exact err _ hg a (by omega) ha
 ·obtain⟨c,hin,hfin,hc⟩:=hx.co h0;have hAc:A i=some c:=by rw[hA];unfold act;rw[if_pos h0,hin]
  obtain⟨hn2,hs⟩:=co_step h hAc hi hc hfin;have hnx:x.next=c.next:=by rw[at_next_eq h0,hin];rfl
  rw[hnx];refine⟨hn2,?_⟩;rw[at_tell_eq h0 (by omega) hs.err]
  simp only[hin,PIn.tell];obtain⟨H',hr,hl⟩:=hs.inv;obtain⟨n',bk',hok⟩:=hs.ok;have hf:=hs.fin;generalize c.tell (doM m c.next.1).1=c' at *
  obtain⟨k,hk⟩:=told_is { x with inner:=.commit c' } s
  rw[hk];by_cases h1:c'.rule.fin=0
  ·rw[if_pos (show(PIn.commit c').rule.fin=0 from h1)]
   refine⟨H',hr,?_,n',bk',⟨hx.mee,hx.order,hx.reads,by simp only;omega,by simp only;omega,fun _=>⟨c',rfl,h1,hok⟩⟩⟩
   have e:act { x with inner:=.commit c',stamp:=k }=some c':=by unfold act;simp only;rw[if_pos h0]
   rw[e];exact hl
  ·rw[if_neg (show ¬(PIn.commit c').rule.fin=0 from h1)]
   have hdrop:LInv (doM m c.next.1).2 s st H' (upd A i none):=by
    obtain⟨g1,g2⟩:=hf h1;exact(hl.drop (upd_self A i _) g1 g2).congrA fun k=>by
     by_cases e:k=i
     ·subst e;rw[upd_self,upd_self]
     ·rw[upd_ne _ _ e,upd_ne _ _ e,upd_ne _ _ e]
   have e:∃f e b,(if(PIn.commit c').rule.fin=5 then PAt.out { x with inner:=.commit c' } 5 0 (PIn.commit c').rule.by_ else PAt.ended { x with inner:=.commit c' } s)=PAt.out { x with inner:=.commit c' } f e b:=by
    split
    ·exact⟨_,_,_,rfl⟩
    ·exact⟨_,_,_,rfl⟩
   obtain⟨f,e1,b,e⟩:=e;refine⟨H',hr,?_,?_⟩
   ·rw[e,act_none (by simp[PAt.out])]
    exact hdrop
   ·rw[e];exact⟨n,bk,hx.mee,hx.order,hx.reads,by simp[PAt.out],by simp[PAt.out],by simp[PAt.out]⟩
 ·rw[at_next_eq h0];refine⟨rfl,?_⟩;have hg:=do9' (m:=m) x.me;simp only;generalize (doM m (POp.at' 9 x.me)).1=a;by_cases ha:a.err=0
  ·rw[at_tell_eq h0 (by omega) ha]
   exact quiet _ hg _ (by omega) (act_none (by simp)) ⟨hx.mee,hx.order,hx.reads,by simp,by simp,by simp⟩
  ·exact err _ hg a (by omega) ha
def AtOk (m:PMm)(s:PSt)(st:Nat)(H:List Nat)(i:Nat)(x:PAt):Prop:=(∃bk,RdAt m s st H bk x)∨∃n bk,WrAt s i n bk x
theorem AtOk.rely (h:AtOk m s st H i x)(hclk:m.clock=st+H.length)(hr:Rely m m' st H H'):AtOk m' s st H' i x:=by
 rcases h with⟨bk,h⟩|h
 ·exact .inl ⟨bk,h.rely hclk hr⟩
 ·exact .inr h
theorem at_step (h:LInv m s st H A)(hi:i<4)(hx:AtOk m s st H i x)(hA:A i=act x)(h8:x.state≠8):
  x.next.2=true∧∃H',Rely m (doM m x.next.1).2 st H H'∧LInv (doM m x.next.1).2 s st H' (upd A i (act (x.tell s (doM m x.next.1).1)))∧AtOk (doM m x.next.1).2 s st H' i (x.tell s (doM m x.next.1).1):=by
 rcases hx with⟨bk,hx⟩|⟨n,bk,hx⟩
 ·have hclk:=h.clk;obtain⟨q1,q2,q3⟩:=rd_step hx (fun p hp hf=>h.freeLock hp hf) (by omega) h8
  rw[act_none hx.state.2.2] at hA;refine⟨q1,H,Rely.same q2.words q2.clock,?_,.inl ⟨bk,q3.rely h.clk (Rely.same q2.words q2.clock)⟩⟩;rw[act_none q3.state.2.2];exact(h.congr q2.words q2.locks q2.clock).congrA (upd_eq hA)
 ·obtain⟨q1,H',q2,q3,q4⟩:=wr_step h hi hx hA h8;exact⟨q1,H',q2,q3,.inr q4⟩
def goodR (l:List (Nat×Nat)):Prop:=l.length≤2∧(l.length=2→(l.getD 0 (0,0)).2=(l.getD 1 (0,0)).2)
theorem known_good {val:Nat}{v:PVw}(h:KnOk val v):goodR v.known:=by
 have hn:=h.nodup;have his:=h.is;unfold PVw.known goodR
 match e:v.order with
 | []=>exact⟨by simp,by simp⟩
 | [a]=>exact⟨by simp,by simp⟩
 | [a,b] =>
  rw[e] at his;have h1:=(his a (by simp)).2
  have h2:=(his b (by simp)).2
  refine⟨by simp,fun _=>?_⟩
  simp only[List.map_cons,List.getD_cons_zero,List.getD_cons_succ];rw[h1,h2]
 |a::b::c::l =>
  rw[e] at his hn;have h1:=(his a (by simp)).1
  have h2:=(his b (by simp)).1
  have h3:=(his c (by simp)).1
  simp at hn;exfalso;omega
theorem at_good (h:AtOk m s st H i x):goodR x.v.known:=by
 rcases h with⟨bk,h⟩|⟨n,bk,h⟩
 ·exact known_good h.kn
 ·unfold PVw.known goodR;rw[h.order];exact⟨by simp,by simp⟩
def isProg (j:List PIns):Prop:=(∃bk,j=codeR bk)∨∃n bk,j=codeW n bk
structure ThOk (m:PMm) (s:PSt) (st:Nat) (H:List Nat) (i:Nat) (t:PTh):Prop where
 me:t.me=i
 jobs:∀j∈t.jobs,isProg j
 job:t.job≤t.jobs.length∧(t.state≠6→t.job<t.jobs.length)
 past:∀a∈t.past,goodR a.reads
 now:t.state=1→∃x,t.now=some x∧AtOk m s st H i x
def actT (t:PTh):Option PCo:=if t.state=1 then t.now.bind act else none
theorem actT_none {t:PTh}(h:t.state≠1):actT t=none:=if_neg h
theorem ThOk.rely {t:PTh}(h:ThOk m s st H i t)(hclk:m.clock=st+H.length)(hr:Rely m m' st H H'):ThOk m' s st H' i t :=
 ⟨h.me,h.jobs,h.job,h.past,fun h1=>by obtain⟨x,q1,q2⟩:=h.now h1;exact⟨x,q1,q2.rely hclk hr⟩⟩
theorem new_ok (j:List PIns)(hj:isProg j):AtOk m s st H i (PAt.new i s j)∧act (PAt.new i s j)=none:=by
 refine⟨?_,act_none (by simp[PAt.new])⟩
 have hsz:13≤(PVw.new s.words s.writes).facts.length:=by simp[PVw.new];omega
 rcases hj with⟨bk,rfl⟩|⟨n,bk,rfl⟩
 ·left;exact⟨bk,⟨⟨rfl,rfl,rfl,Nat.zero_le _,.inl rfl,(by intro r hr;simp[PAt.new,PVw.new,PLv.new] at hr;exact hr),hsz⟩,KnOk.nil rfl,(by intro r hr;cases hr),fun h=>absurd rfl h,by simp[PAt.new]⟩,fun _=>⟨rfl,rfl⟩,by simp[PAt.new],fun h=>absurd rfl h,by simp[PAt.new],by simp[PAt.new],by simp[PAt.new]⟩
 ·right;exact⟨n,bk,rfl,rfl,rfl,fun _=>⟨rfl,rfl,rfl,Nat.zero_le _,rfl,by simp[PAt.new,PIt.new],rfl,hsz⟩,by simp[PAt.new],by simp[PAt.new]⟩
theorem again_ok {t:PTh}(h1:t.me=i)(h2:∀j∈t.jobs,isProg j)(h3:t.job≤t.jobs.length)(h4:∀a∈t.past,goodR a.reads):ThOk m s st H i (t.again s)∧actT (t.again s)=none:=by
 unfold PTh.again;simp only;by_cases h:t.job=t.jobs.length
 ·rw[if_pos h];exact⟨⟨h1,h2,⟨h3,by simp⟩,h4,by simp⟩,actT_none (by simp)⟩
 ·rw[if_neg h];have hlt:t.job<t.jobs.length:=by omega
  have hj:isProg (t.jobs.getD t.job []):=h2 _ (by rw[gD,List.getElem?_eq_getElem hlt];exact List.getElem_mem _)
  obtain⟨q1,q2⟩:=new_ok (m:=m) (s:=s) (st:=st) (H:=H) (i:=i) _ hj;rw[←h1] at q1 q2;refine⟨⟨h1,h2,⟨h3,fun _=>hlt⟩,h4,fun _=>⟨_,rfl,h1▸q1⟩⟩,?_⟩
  unfold actT;simp only[if_true,Option.bind_some];exact q2
theorem pause_ok {t:PTh}(h1:t.me=i)(h2:∀j∈t.jobs,isProg j)(h3:t.job<t.jobs.length)(h4:∀a∈t.past,goodR a.reads)(d:Nat):ThOk m s st H i (t.pause s d)∧actT (t.pause s d)=none:=by
 unfold PTh.pause;simp only;split
 ·exact again_ok (t:={ t with pauses:=_,state:=3 }) h1 h2 (by simp only;omega) h4
 ·exact⟨⟨h1,h2,⟨by simp only;omega,fun _=>h3⟩,h4,by simp⟩,actT_none (by simp)⟩
theorem pauseOne_ok {t:PTh}(h:ThOk m s st H i t):ThOk m s st H i (t.pauseOne s)∧actT (t.pauseOne s)=actT t:=by
 unfold PTh.pauseOne;by_cases h3:t.state≠3
 ·rw[if_pos h3];exact⟨h,rfl⟩
 ·rw[if_neg h3];have e:actT t=none:=actT_none (by omega)
  have hj:=h.job.2 (by omega)
  rw[e];simp only;split
  ·exact again_ok (t:={ t with pauses:=t.pauses-1 }) h.me h.jobs h.job.1 h.past
  ·exact⟨⟨h.me,h.jobs,h.job,h.past,by simp only;omega⟩,actT_none (by simp only;omega)⟩
theorem wake_ok {t:PTh}(h:ThOk m s st H i t)(k v:Nat):ThOk m s st H i (t.wake s k v)∧actT (t.wake s k v)=actT t:=by
 unfold PTh.wake;split
 ·exact⟨h,rfl⟩
 ·split
  ·split
   ·rename_i h4;rw[actT_none (t:=t) (by omega)]
    exact again_ok h.me h.jobs h.job.1 h.past
   ·split
    ·exact⟨⟨h.me,h.jobs,h.job,h.past,h.now⟩,rfl⟩
    ·exact⟨h,rfl⟩
  ·exact⟨h,rfl⟩
theorem ended_ok {t:PTh}(h1:t.me=i)(h2:∀j∈t.jobs,isProg j)(h3:t.job<t.jobs.length)(h4:∀a∈t.past,goodR a.reads)(hx:goodR x.v.known)(d k:Nat):ThOk m s st H i (t.ended s x d k)∧actT (t.ended s x d k)=none:=by
 have h5:∀a∈t.past++[x.toldOf t k],goodR a.reads:=by
  intro a ha;simp only[List.mem_append,List.mem_singleton] at ha;rcases ha with ha|rfl
  ·exact h4 a ha
  ·exact hx
 unfold PTh.ended;simp only;split
 ·split
  ·exact⟨⟨h1,h2,⟨by simp only;omega,fun _=>h3⟩,h5,by simp⟩,actT_none (by simp)⟩
  ·exact pause_ok (t:={ t with past:=t.past++[x.toldOf t k],tries:=t.tries+1,conflicts:=t.conflicts+1 }) h1 h2 h3 h5 d
 ·split
  ·split
   ·exact again_ok (t:={ t with past:=t.past++[x.toldOf t k],tries:=t.tries+1 }) h1 h2 (by simp only;omega) h5
   ·exact⟨⟨h1,h2,⟨by simp only;omega,fun _=>h3⟩,h5,by simp⟩,actT_none (by simp)⟩
  ·unfold PTh.following;exact again_ok (t:={ t with past:=t.past++[x.toldOf t k],tries:=0,results:=_,job:=t.job+1,conflicts:=0 }) h1 h2 (by simp only;omega) h5
theorem attempts_good {t:PTh}(h:ThOk m s st H i t):∀a∈t.attempts,goodR a.reads:=by
 intro a ha;unfold PTh.attempts at ha;simp only[List.mem_append] at ha;rcases ha with ha|ha
 ·exact h.past a ha
 ·split at ha
  ·rename_i h1;obtain⟨x,q1,q2⟩:=h.now h1;rw[q1] at ha;simp only at ha;split at ha
   ·simp at ha;subst ha;exact at_good q2
   ·cases ha
  ·cases ha
def acts (thr:List PTh):Nat→Option PCo:=fun i=>(thr[i]?).bind actT
theorem acts_set (thr:List PTh)(i:Nat)(t:PTh)(h:i<thr.length):∀k,acts (thr.set i t) k=upd (acts thr) i (actT t) k:=fun k=>by
 unfold acts;by_cases e:k=i
 ·subst e;rw[upd_self,List.getElem?_set_self h];rfl
 ·rw[upd_ne _ _ e,List.getElem?_set_ne (Ne.symm e)]
structure MInv (m:PMc) (st:Nat) (H:List Nat):Prop where
 thr:∀i t,m.thr[i]?=some t→ThOk m.mem m.s st H i t
 inv:LInv m.mem m.s st H (acts m.thr)
 len:m.thr.length≤4
theorem doC_same (m:PMm)(o:POp):SameG (doM m o).2 (doC m o).2:=by
 unfold doC;simp only;split<;>exact⟨rfl,rfl,rfl⟩
theorem AtOk.same (h:AtOk m s st H i x)(hclk:m.clock=st+H.length)(hg:SameG m m'):AtOk m' s st H i x:=h.rely hclk (Rely.same hg.words hg.clock)
theorem Rely.trans_same {m'':PMm}(h:Rely m m' st H H')(hg:SameG m' m''):Rely m m'' st H H':=by
 unfold Rely at *
 rw[hg.words,hg.clock];exact h
theorem MInv.step {M:PMc}{mm:PMm}{t t':PTh}(h:MInv M st H)(ht:M.thr[i]?=some t)(hr:Rely M.mem mm st H H')(hl:LInv mm M.s st H' (upd (acts M.thr) i (actT t')))(hok:ThOk mm M.s st H' i t')(picks:Nat)(last:POp)(did:Bool):
  MInv { M with mem:=mm,thr:=M.thr.set i t',picks:=picks,last:=last,did:=did } st H':=by
 have hlt:i<M.thr.length:=(List.getElem?_eq_some_iff.1 ht).1;refine⟨fun k u hu=>?_,hl.congrA (acts_set _ _ _ hlt),by simpa using h.len⟩
 simp only at hu;by_cases e:k=i
 ·subst e;rw[List.getElem?_set_self hlt] at hu;obtain rfl:=Option.some.inj hu;exact hok
 ·rw[List.getElem?_set_ne (Ne.symm e)] at hu;exact(h.thr k u hu).rely h.inv.clk hr
theorem MInv.wake {M:PMc}(h:MInv M st H)(i k v:Nat):MInv { M with thr:=M.thr.mapIdx fun j o=>if j=i then o else o.wake M.s k v } st H:=by
 have key:∀j o,M.thr[j]?=some o→ThOk M.mem M.s st H j (if j=i then o else o.wake M.s k v)∧actT (if j=i then o else o.wake M.s k v)=actT o:=fun j o ho=>by
  have:=h.thr j o ho
  split
  ·exact⟨this,rfl⟩
  ·exact wake_ok this k v
 refine⟨fun j u hu=>?_,h.inv.congrA fun j=>?_,by simpa using h.len⟩
 ·simp only[List.getElem?_mapIdx,Option.map_eq_some_iff] at hu;obtain⟨o,ho,rfl⟩:=hu;exact(key j o ho).1
 ·unfold acts;simp only[List.getElem?_mapIdx];cases ho:M.thr[j]? with
  |none=>rfl
  |some o=>exact(key j o ho).2
theorem upd_id (k:Option PCo)(hA:A i=k):∀j,upd A i k j=A j:=fun j=>by
 by_cases e:j=i
 ·subst e;rw[upd_self,hA]
 ·exact upd_ne A _ e
theorem pick_ok {M:PMc}(h:MInv M st H)(i d:Nat):∃H',MInv (M.pick i d) st H':=by
 unfold PMc.pick;cases ht:M.thr[i]? with
 |none=>exact⟨H,h⟩
 |some t =>
  have hlt:i<M.thr.length:=(List.getElem?_eq_some_iff.1 ht).1;have hi:i<4:=by have:=h.len;omega
  have hth:=h.thr i t ht;have hAi:acts M.thr i=actT t:=by unfold acts;rw[ht];rfl
  simp only;by_cases hd:t.next.2=false
  ·rw[if_pos hd];obtain⟨q1,q2⟩:=pauseOne_ok hth;exact⟨H,h.step ht (Rely.same rfl rfl) (h.inv.congrA (by rw[q2];exact upd_id _ hAi)) q1 _ _ _⟩
  rw[if_neg hd];have hd':t.next.2=true:=by simpa using hd
  obtain⟨t',H',ht',hM⟩:∃t' H',t.tell M.s (doC M.mem t.next.1).1 d (M.picks+1)=t'∧MInv { M with mem:=(doC M.mem t.next.1).2,thr:=M.thr.set i t',picks:=M.picks+1,last:=t.next.1,did:=t.next.2 } st H':=by
   have hg:=doC_same M.mem t.next.1;have hfst:(doC M.mem t.next.1).1=(doM M.mem t.next.1).1:=rfl;rw[hfst];by_cases h1:t.state=1
   ·obtain⟨x,hx,hxo⟩:=hth.now h1;have hnx:t.next=x.next:=by unfold PTh.next;rw[h1,hx];rfl
    rw[hnx] at hg hd' ⊢;have h8:x.state≠8:=fun e=>by rw[at_next_eq e] at hd';cases hd'
    have hAx:acts M.thr i=act x:=by rw[hAi];unfold actT;rw[if_pos h1,hx];rfl
    obtain⟨_,H',q2,q3,q4⟩:=at_step h.inv hi hxo hAx h8;have q2':=q2.trans_same hg;have q3':=q3.congr hg.words hg.locks hg.clock;have q4':=q4.same q3.clk hg;have e:t.tell M.s (doM M.mem x.next.1).1 d (M.picks+1)=(let y:=x.tell M.s (doM M.mem x.next.1).1;let t9:={ t with now:=some y,born:=if y.begun&&!x.begun then M.picks+1 else t.born };if y.finOf≠0 then t9.ended M.s y d (M.picks+1) else t9):=by
     unfold PTh.tell;simp only[h1,hx]
    rw[e];simp only;generalize x.tell M.s (doM M.mem x.next.1).1=y at *
    have hj:=hth.job.2 (by omega)
    by_cases hf:y.finOf≠0
    ·rw[if_pos hf];obtain⟨r1,r2⟩:=ended_ok (m:=(doC M.mem x.next.1).2) (s:=M.s) (st:=st) (H:=H') (i:=i) (x:=y) (t:={ t with now:=some y,born:=if y.begun&&!x.begun then M.picks+1 else t.born }) hth.me hth.jobs hj hth.past (at_good q4') d (M.picks+1)
     refine⟨_,H',rfl,h.step ht q2' ?_ r1 _ _ _⟩;rw[r2];have hy8:act y=none:=by
      refine act_none fun e9=>hf ?_
      unfold PAt.finOf;rw[if_pos (by omega)]
     rw[hy8] at q3';exact q3'
    ·rw[if_neg hf];refine⟨_,H',rfl,h.step (t':={ t with now:=some y,born:=if y.begun&&!x.begun then M.picks+1 else t.born }) ht q2' ?_ ⟨hth.me,hth.jobs,hth.job,hth.past,fun _=>⟨y,rfl,q4'⟩⟩ _ _ _⟩
     have e9:actT { t with now:=some y,born:=if y.begun&&!x.begun then M.picks+1 else t.born }=act y:=by unfold actT;simp only;rw[if_pos h1];rfl
     rw[e9];exact q3'
   ·by_cases h2:t.state=2
    ·have hnx:t.next=(POp.at' 8 t.by_,true):=by unfold PTh.next;rw[h2];rfl
     have hA0:acts M.thr i=none:=by rw[hAi];exact actT_none h1
     have hg2:SameG M.mem (doM M.mem t.next.1).2:=by
      rw[hnx];show SameG M.mem (if t.by_<M.mem.since.length then _ else _:PAns×PMm).2
      split<;>exact SameG.refl _
     have hg3:SameG M.mem (doC M.mem t.next.1).2:=⟨hg.words.trans hg2.words,hg.locks.trans hg2.locks,hg.clock.trans hg2.clock⟩;have hj:=hth.job.2 (by omega)
     have e:t.tell M.s (doM M.mem t.next.1).1 d (M.picks+1)=t.yield_ M.s (doM M.mem t.next.1).1 d:=by unfold PTh.tell;rw[h2];rfl
     rw[e];generalize (doM M.mem t.next.1).1=a;have hy:ThOk (doC M.mem t.next.1).2 M.s st H i (t.yield_ M.s a d)∧actT (t.yield_ M.s a d)=none:=by
      unfold PTh.yield_;split
      ·exact⟨⟨hth.me,hth.jobs,hth.job,hth.past,by simp only;omega⟩,actT_none (by simp only;omega)⟩
      ·exact pause_ok hth.me hth.jobs hj hth.past d
     exact⟨_,H,rfl,h.step ht (Rely.same hg3.words hg3.clock) (by rw[hy.2];exact(h.inv.congr hg3.words hg3.locks hg3.clock).congrA (upd_eq hA0)) hy.1 _ _ _⟩
    ·exfalso
     have:t.next=(POp.zero,false):=by
      unfold PTh.next;split
      ·rename_i e;omega
      ·rename_i e;omega
      ·rfl
     rw[this] at hd';cases hd'
  rw[ht'];split
  ·exact⟨H',hM⟩
  ·exact⟨H',hM.wake i _ _⟩
end
end Prs
end
namespace Prs
theorem new_th (i:Nat)(s:PSt)(jobs:List (List PIns))(hj:∀p∈jobs,isProg p)(m:PMm)(st:Nat)(H:List Nat):ThOk m s st H i (PTh.new i s jobs)∧actT (PTh.new i s jobs)=none:=by
 unfold PTh.new;exact again_ok rfl (fun p hp=>hj p (List.mem_of_mem_take hp)) (Nat.zero_le _) (by intro a ha;cases ha)
theorem getD_zeros (n k:Nat):(List.replicate n 0).getD k 0=0:=by
 rw[gD,List.getElem?_replicate];split<;>rfl
theorem getD_plk (n k:Nat):(List.replicate n PLk.zero).getD k PLk.zero=PLk.zero:=by
 rw[gD,List.getElem?_replicate];split<;>rfl
theorem new_inv (s:PSt)(jobs:List (List (List PIns)))(hj:∀l∈jobs,∀p∈l,isProg p):MInv (PMc.new s jobs) (PMc.new s jobs).s.start []:=by
 have hth:∀i t,(PMc.new s jobs).thr[i]?=some t→∀m st H,ThOk m (PMc.new s jobs).s st H i t∧actT t=none:=by
  intro i t ht m st H;simp only[PMc.new,List.getElem?_map,Option.map_eq_some_iff] at ht;obtain⟨k,hk,rfl⟩:=ht;have hki:k=i:=by
   have h:=(List.getElem?_eq_some_iff.1 hk);obtain⟨h1,h2⟩:=h;simpa using h2.symm
  subst hki;refine new_th k _ _ (fun p hp=>?_) m st H
  rw[gD] at hp;cases he:(jobs.take 4)[k]? with
  |none=>rw[he] at hp;cases hp
  |some l =>
   rw[he] at hp;exact hj l (List.mem_of_mem_take (List.mem_of_getElem? he)) p hp
 have hA:∀i,acts (PMc.new s jobs).thr i=none:=fun i=>by
  unfold acts;cases h:(PMc.new s jobs).thr[i]? with
  |none=>rfl
  |some t=>exact(hth i t h (PMc.new s jobs).mem 0 []).2
 refine⟨fun i t ht=>(hth i t ht _ _ _).1,⟨fun i c h=>?_,rfl,?_,?_,?_,?_,fun i c j h=>?_,fun L hL=>?_,fun p hp=>?_,fun p hp=>?_,fun i c h=>?_,fun L _=>?_⟩,?_⟩
 ·rw[hA] at h;cases h
 ·show min s.start 4611686018427387903<_
  omega
 ·show 13≤(freshW _).length
  simp[freshW];omega
 ·simp[PMc.new]
 ·show 0<max 1 _
  omega
 ·rw[hA] at h;cases h
 ·have:((PMc.new s jobs).mem.locks.getD L PLk.zero)=PLk.zero:=getD_plk _ _
  rw[this] at hL;cases hL
 ·left
  have:((PMc.new s jobs).mem.locks.getD (sOf (PMc.new s jobs).s p) PLk.zero)=PLk.zero:=getD_plk _ _
  rw[this];unfold verOf;exact(if_pos (Nat.le_refl _)).symm
 ·left
  have:(PMc.new s jobs).mem.words.getD p 0=0:=by
   show(freshW _).getD p 0=0
   unfold freshW;rw[getD_set_ne _ _ _ (by omega)]
   exact getD_zeros _ _
  rw[this];unfold valOf;exact(if_pos (Nat.le_refl _)).symm
 ·rw[hA] at h;cases h
 ·have:((PMc.new s jobs).mem.locks.getD L PLk.zero)=PLk.zero:=getD_plk _ _
  rw[this];exact⟨rfl,by decide⟩
 ·show(List.map _ (List.range (max 1 (min (jobs.take 4).length 4)))).length≤4
  simp;omega
theorem MInv.good {M:PMc}{st:Nat}{H:List Nat}(h:MInv M st H):∀a∈M.attempts,goodR a.reads:=by
 intro a ha;unfold PMc.attempts at ha;obtain⟨t,ht,ha⟩:=List.mem_flatMap.1 ha;obtain⟨i,hi⟩:=List.getElem?_of_mem ht;exact attempts_good (h.thr i t hi) a ha
end Prs
def addsP (p:Nat):List PIns:=[⟨8,0,7,(p:Int),0⟩,⟨1,1,0,0,1⟩,⟨3,0,0,1,0⟩,⟨9,7,0,(p:Int),0⟩,⟨21,0,0,0,0⟩]
def pickN:Nat→PMc→PMc
 |0,m=>m
 |n+1,m=>(pickN n m).pick 0 0
def awakeM:PMc:=PMc.new ⟨40,4,0,0,0,0,9,20⟩ [[addsP 6]]
def awakeB (m:PMc):Bool:=m.mem.words.length==40&&(m.mem.words.getD 6 0==1&&(match m.thr with
 | [t]=>t.state==6&&(t.attempts.length==1&&(match t.results with
  | [r]=>r.slate==[49]
  |_=>false))
 |_=>false))
theorem awake_plain:awakeB (pickN 40 awakeM)=true:=by decide +kernel
def pairP (n:Nat)(read back:Bool):List PIns:=if read then Prs.codeR back else Prs.codeW n back
theorem pair_prog (n:Nat)(read back:Bool):Prs.isProg (pairP n read back):=by
 unfold pairP Prs.isProg;cases read
 ·exact .inr ⟨n,back,rfl⟩
 ·exact .inl ⟨back,rfl⟩
def depR (k:Nat):Nat:=if k=2∨k=3 then 1 else 0
theorem codeR_fine (b:Bool):CodeFine depR (Prs.codeR b):=by
 refine⟨by simp[Prs.codeR],fun k hk=>?_,rfl⟩
 have h6:(Prs.codeR b).length=6:=rfl;rw[h6] at hk;cases b<;>(rcases(by omega:k=0∨k=1∨k=2∨k=3∨k=4∨k=5) with rfl|rfl|rfl|rfl|rfl|rfl) <;>
  exact⟨by decide,by decide,by decide,by decide,by decide⟩
theorem ins_mk {dep:Nat→Nat}{k:Nat}(op a b c n:Int)(ha:0≤a∧a<8)(hb:0≤b∧b<8)(hc:0≤c∧c≤40)(hn:0≤n∧n<18446744073709551616)(ho:(op=1∨op=3∨op=8∨op=9∨op=21)∧dep (k+1)=dep k):InsFine dep k ⟨op,a,b,c,n⟩:=⟨ha,hb,hc,hn,.inl ho⟩
theorem codeW_fine (n:Nat)(hn:n≤15)(b:Bool):CodeFine (fun _=>0) (Prs.codeW n b):=by
 refine⟨by simp[Prs.codeW],fun k hk=>?_,rfl⟩
 have h6:(Prs.codeW n b).length=3:=rfl;rw[h6] at hk;have hpa:0≤((Prs.pa b:Nat):Int)∧((Prs.pa b:Nat):Int)≤40:=by rcases Prs.pa_or b with h|h<;>rw[h]<;>decide
 have hpb:0≤((Prs.pb b:Nat):Int)∧((Prs.pb b:Nat):Int)≤40:=by rcases Prs.pb_or b with h|h<;>rw[h]<;>decide
 rcases(by omega:k=0∨k=1∨k=2) with rfl|rfl|rfl
 ·exact ins_mk 1 0 0 0 (n:Int) (by decide) (by decide) (by decide) (by omega) (by decide)
 ·exact ins_mk 9 7 0 _ 0 (by decide) (by decide) hpa (by decide) (by decide)
 ·exact ins_mk 9 7 0 _ 0 (by decide) (by decide) hpb (by decide) (by decide)
theorem addsP_fine (p:Nat)(hp:p≤40):CodeFine (fun _=>0) (addsP p):=by
 refine⟨by simp[addsP],fun k hk=>?_,rfl⟩
 have h6:(addsP p).length=5:=rfl;rw[h6] at hk;have hpa:0≤((p:Nat):Int)∧((p:Nat):Int)≤40:=by omega
 rcases(by omega:k=0∨k=1∨k=2∨k=3∨k=4) with rfl|rfl|rfl|rfl|rfl
 ·exact ins_mk 8 0 7 _ 0 (by decide) (by decide) hpa (by decide) (by decide)
 ·exact ins_mk 1 1 0 0 1 (by decide) (by decide) (by decide) (by decide) (by decide)
 ·exact ins_mk 3 0 0 1 0 (by decide) (by decide) (by decide) (by decide) (by decide)
 ·exact ins_mk 9 7 0 _ 0 (by decide) (by decide) hpa (by decide) (by decide)
 ·exact ins_mk 21 0 0 0 0 (by decide) (by decide) (by decide) (by decide) (by decide)
theorem codeR_ok (b:Bool):okP (Prs.codeR b)=true:=by cases b<;>decide +kernel
theorem codeW_ok:∀n,n≤15→∀b,okP (Prs.codeW n b)=true:=by
 have h:∀n:Fin 16,∀b,okP (Prs.codeW n.1 b)=true:=by decide +kernel
 intro n hn b;exact h ⟨n,by omega⟩ b
theorem addsP_ok6:okP (addsP 6)=true:=by decide +kernel
theorem pair_fine (n:Nat)(hn:n≤15)(read back:Bool):JobFine (pairP n read back):=by
 unfold pairP;cases read
 ·exact⟨codeW_ok n hn back,_,codeW_fine n hn back⟩
 ·exact⟨codeR_ok back,_,codeR_fine back⟩
theorem adds_fine:JobFine (addsP 6):=⟨addsP_ok6,_,addsP_fine 6 (by omega)⟩
def jobsAt (ks:List Nat)(k r:Nat):List (List PIns):=((List.range k).filter (fun i=>i%3==r)).map fun i=>pairP (i+1) (ks.getD i 0%2==1) (ks.getD i 0 / 2%2==1)
theorem jobsAt_succ (ks:List Nat)(k r:Nat):jobsAt ks (k+1) r=if k%3=r then jobsAt ks k r++[pairP (k+1) (ks.getD k 0%2==1) (ks.getD k 0 / 2%2==1)] else jobsAt ks k r:=by
 unfold jobsAt;rw[List.range_succ,List.filter_append,List.map_append];by_cases h:k%3=r
 ·rw[if_pos h];simp[h]
 ·rw[if_neg h];simp[h]
theorem jobsAt_all (ks:List Nat)(k r:Nat)(hk:k≤15):∀p∈jobsAt ks k r,JobFine p∧Prs.isProg p:=by
 intro p hp;unfold jobsAt at hp;obtain⟨i,hi,rfl⟩:=List.mem_map.1 hp
 have:=(List.mem_filter.1 hi).1
 rw[List.mem_range] at this;exact⟨pair_fine _ (by omega) _ _,pair_prog _ _ _⟩
def jobs3 (ks:List Nat)(k:Nat):List (List (List PIns)):=[jobsAt ks k 0,jobsAt ks k 1,jobsAt ks k 2]
theorem jobs3_all (ks:List Nat)(k:Nat)(hk:k≤15):∀l∈jobs3 ks k,∀p∈l,JobFine p∧Prs.isProg p:=by
 intro l hl;simp only[jobs3,List.mem_cons,List.not_mem_nil,or_false] at hl;rcases hl with rfl|rfl|rfl<;>exact jobsAt_all ks k _ hk
def BkS (N:Nat)(CS:Array Value)(w:World):Prop:=Blk w N 43 CS
theorem tmod_in (n:Int)(m:Nat)(hm:0<m) : -(m:Int)<n.tmod (m:Int)∧n.tmod (m:Int)<(m:Int):=by
 have h1:(n.tmod (m:Int)).natAbs=n.natAbs%(m:Int).natAbs:=Int.natAbs_tmod n m;have h2:=Nat.mod_lt n.natAbs (show 0<(m:Int).natAbs by omega)
 omega
theorem within_any (w:World)(n:Int)(lo hi:Nat)(h1:lo≤hi)(h2:hi≤1000):
  Calls Tryz.prog 28 #[.int .i64 n,.int .i64 lo,.int .i64 hi] w fun e w'=>∃r:Nat,lo≤r∧r≤hi∧e=.returned (.int .i64 r)∧w'=w:=by
 obtain⟨m,hm⟩:∃m:Nat,hi-lo+1=m:=⟨_,rfl⟩;have e1:(hi:Int)-(lo:Int)+1=(m:Int):=by omega
 have hne:((hi:Int)-(lo:Int)+1)≠0:=by omega
 have ht:=tmod_in n m (by omega)
 rw[←e1] at ht;obtain⟨q,hq⟩:∃q,n.tmod ((hi:Int)-(lo:Int)+1)=q:=⟨_,rfl⟩;rw[hq] at ht;have b1:(lo:Int)≤(hi:Int):=by omega
 have b2:(hi:Int)≤1000:=by omega
 have b3:(0:Int)≤(lo:Int):=by omega
 have b4:(0:Int)≤(hi:Int):=by omega
 have b5:(lo:Int)≤1000:=by omega
 clear e1;by_cases h0:q<0
 ·have hR:∃r:Nat,lo≤r∧r≤hi∧((lo:Int)+(q+(hi:Int)-(lo:Int)+1))=(r:Int):=⟨((lo:Int)+(q+(hi:Int)-(lo:Int)+1)).toNat,by omega,by omega,by omega⟩
  obtain⟨r,r1,r2,r3⟩:=hR;have HR:=h_ r3;clear h1 h2 hm r3;go_enter Tryz.func28,Tryz.ntmps28;go_wp2;go_ret;exact⟨r,r1,r2,by rw[←HR.o];first|rfl|simp,rfl⟩
 ·have hR:∃r:Nat,lo≤r∧r≤hi∧((lo:Int)+q)=(r:Int):=⟨((lo:Int)+q).toNat,by omega,by omega,by omega⟩
  obtain⟨r,r1,r2,r3⟩:=hR;have HR:=h_ r3;clear h1 h2 hm r3;go_enter Tryz.func28,Tryz.ntmps28;go_wp2;go_ret;exact⟨r,r1,r2,by rw[←HR.o];first|rfl|simp,rfl⟩
theorem pick_any (ω w:World)(F:HP)(h:Sat ω w F)(m:Value)(x n:Int)(d:Nat)(k:Nat)(hk:k≤1000):
  Calls Tryz.prog 12 #[m,.agg #[.int .i64 x,.int .u8 d,.int .i64 n],.int .i64 k] w fun e w'=>∃r:Nat,r≤k∧e=.returned (.int .i64 r)∧Sat ω w' F:=by
 have HW:=h_ (fun w1=>within_any w1 n 0 k (Nat.zero_le _) hk)
 have H:=h_ h;clear h;go_enter Tryz.func12,Tryz.ntmps12;go_wp2_with (go_at_call 28;refine(HW.o _).mono ?_;rintro e w1 ⟨r,r1,r2,rfl,rfl⟩);go_ret;exact⟨r,r2,rfl,H.o.junk _⟩
theorem who_any (ω w:World)(F:HP)(b:Nat)(M:PMc)(h:Sat ω w (mcH b M*F))(hn1:1≤M.thr.length)(hn4:M.thr.length≤4)(x n:Int)(d:Nat):
  Calls Tryz.prog 14 #[.pointer (some ⟨b,0,none⟩),.agg #[.int .i64 x,.int .u8 d,.int .i64 n]] w fun e w'=>∃r:Nat,r<M.thr.length∧e=.returned (.int .i64 r)∧Sat ω w' (mcH b M*F):=by
 obtain⟨N,hN⟩:∃N,w.heap.size=N:=⟨_,rfl⟩;have HX:Hid (Sat ω (w.alloc (.cells #[.int .i64 x,.int .u8 d,.int .i64 n] 43)) (bk N 43 #[.int .i64 x,.int .u8 d,.int .i64 n]*(mcH b M*F))):=h_ (by rw[←hN];exact h.new _ _)
 have HD:=h_ (HX.o.drewN 1);have HT:Hid (∀w1,Sat ω w1 (bk N 43 #[.int .i64 x,.int .u8 d,.int .i64 n]*(mcH b M*F))→Calls Tryz.prog 31 #[.pointer (some ⟨b,0,none⟩)] w1 fun e w'=>e=.returned (.int .i64 M.thr.length)∧w1=w'):=h_ (fun w1 h1=>by
  refine(mc_threads ω w1 _ b M h1.right).mono ?_;rintro e w2 ⟨rfl,rfl⟩;exact⟨rfl,rfl⟩)
 obtain⟨q,hq⟩:∃q,M.thr.length=q:=⟨_,rfl⟩;rw[hq] at HT hn1 hn4 ⊢;have hmx:max (q:Int) 1=(q:Int):=by omega
 have hmx2:max (1:Int) (q:Int)=(q:Int):=by omega
 have HW:Hid (∀w1,Calls Tryz.prog 28 #[.int .i64 x,.int .i64 0,.int .i64 (IntKind.i64.wrap ((q:Int)-1))] w1 fun e w'=>∃r:Nat,r<q∧e=.returned (.int .i64 r)∧w1=w'):=h_ (fun w1=>by
  have e:IntKind.i64.wrap ((q:Int)-1)=((q-1:Nat):Int):=by rcases(by omega:q=1∨q=2∨q=3∨q=4) with rfl|rfl|rfl|rfl<;>decide +kernel
  rw[e];refine(within_any w1 x 0 (q-1) (Nat.zero_le _) (by omega)).mono ?_
  rintro e w2 ⟨r,r1,r2,rfl,rfl⟩;exact⟨r,by omega,rfl,rfl⟩)
 have HS0:BkS N #[.int .i64 x,.int .u8 d,.int .i64 n] (w.alloc (.cells #[.int .i64 x,.int .u8 d,.int .i64 n] 43)).drew:=HD.o.blk;clear h hq;go_enter Tryz.func14,Tryz.ntmps14;go_wp2;refine wp_region_noPanic ?_;refine gH (BkS N #[.int .i64 x,.int .u8 d,.int .i64 n]) HS0 fun hh0=>?_
 refine tH 0 ?_ rfl ?_ (tH 1 ?_ rfl ?_ (tH 2 ?_ rfl ?_ ?_));all_goals (try (
  intro w hSw;have jl:=hSw.lt;have jf:=hSw.frozen;have j0:=hSw.c 0;try simp only[Act.put,sA,sB,sC]
  go_simp<;>(try with_reducible rfl)))
 try simp only[Act.put,sA,sB,sC]
 refine oH 3 rfl fun K hK=>?_
 go_simp;go_at_call 31;refine(HT.o _ HD.o).mono ?_;rintro e wA ⟨rfl,rfl⟩;first|(refine hK.q ?_ fun hh1=>?_)|(go_wp2_with fail;refine hK.q ?_ fun hh1=>?_)
 ·exact HS0
 clear hK K hh0;try simp only[Act.put,sA,sB,sC]
 refine tH 4 ?_ rfl ?_ (tH 5 ?_ rfl ?_ ?_);all_goals (try (
  intro w hSw;have jl:=hSw.lt;have jf:=hSw.frozen;have j0:=hSw.c 0;try simp only[Act.put,sA,sB,sC]
  go_simp<;>(try with_reducible rfl)))
 try simp only[Act.put,sA,sB,sC]
 refine oH 6 rfl fun K hK=>?_
 go_simp;go_at_call 28;refine(HW.o _).mono ?_;rintro e wB ⟨r,hr,rfl,rfl⟩;first|(refine hK.q ?_ fun hh2=>?_)|(go_wp2_with fail;refine hK.q ?_ fun hh2=>?_)
 ·exact HS0
 clear hK K hh1;try simp only[Act.put,sA,sB,sC]
 refine tH 7 ?_ rfl ?_ ?_;all_goals (try (
  intro w hSw;have jl:=hSw.lt;have jf:=hSw.frozen;have j0:=hSw.c 0;go_simp<;>(try with_reducible rfl)))
 try simp only[Act.put,sA,sB,sC]
 refine dH (NoPanic.normal ?_);go_wp2;go_ret;exact⟨r,hr,rfl,HD.o.right⟩
end Go.Proofs.YtfodmgaliclhfaaGreatDoor
