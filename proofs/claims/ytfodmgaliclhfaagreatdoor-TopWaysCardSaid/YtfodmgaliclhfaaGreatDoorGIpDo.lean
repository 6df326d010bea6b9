/- Lemmas. -/
import Derived.Test.YtfodmgaliclhfaaGreatDoorGOkIt
namespace Go.Proofs.YtfodmgaliclhfaaGreatDoor
set_option linter.unusedVariables false
set_option linter.unusedSimpArgs false
set_option maxRecDepth 100000
set_option maxHeartbeats 4000000
open Go.RowKit Go.Proofs.Tryz Iq Jq
section
inductive InOp (dep:Nat→Nat) (code:List PIns) (k:Nat) (i:PIns):Prop
 |on (h:i.op=1∨i.op=3∨i.op=8∨i.op=9∨i.op=21) (d:dep (k+1)=dep k)
 |jump (h:i.op=12) (d:dep i.c.toNat=dep k) (l:i.c.toNat≤code.length)
 |zero (h:i.op=13) (d0:dep (k+1)=dep k) (d:dep i.c.toNat=dep k) (l:i.c.toNat≤code.length)
 |either (h:i.op=17) (d0:dep (k+1)=dep k+1) (m:Nat) (e:(matchP code)[k]?=some (m:Int)) (d:dep (m+1)=dep k+1) (l:m+1≤code.length)
 |or (h:i.op=18) (m:Nat) (e:(matchP code)[k]?=some (m:Int)) (d:dep (m+1)+1=dep k) (l:m+1≤code.length)
 |done (h:i.op=19) (d:dep (k+1)+1=dep k)
 |retry (h:i.op=20)
structure InsFine (dep:Nat→Nat) (code:List PIns) (k:Nat) (i:PIns):Prop where
 a:0≤i.a∧i.a<8
 b:0≤i.b∧i.b<8
 c:0≤i.c∧i.c≤40
 n:0≤i.n∧i.n<18446744073709551616
 op:InOp dep code k i
structure CodeFine (dep:Nat→Nat) (code:List PIns):Prop where
 len:code.length≤40
 ins:∀k,k<code.length→InsFine dep code k (code.getD k PIns.none)
 zero:dep 0=0
def WaysFine (dep:Nat→Nat)(code:List PIns)(l:List PPt):Prop:=∀j p,l[j]?=some p→p.op=17→∃m:Nat,(matchP code)[p.at_]?=some (m:Int)∧dep (m+1)=j+1∧m+1≤code.length
structure OpensFine (l:List PPt) (n:Nat):Prop where
 all:∀p∈l,p.regs.length=8∧(∀r∈p.regs,U64 r)∧p.told≤n∧p.at_≤40
 told:l.Pairwise fun p q=>p.told≤q.told
theorem OpensFine.mono {l:List PPt}{n m:Nat}(h:OpensFine l n)(hn:n≤m):OpensFine l m:=⟨fun p hp=>by have:=h.all p hp;exact⟨this.1,this.2.1,by omega,this.2.2.2⟩,h.told⟩
theorem OpensFine.init {l:List PPt}{n:Nat}(h:OpensFine l n):OpensFine l.dropLast n:=⟨fun p hp=>h.all p (List.dropLast_subset _ hp),h.told.sublist (List.dropLast_sublist _)⟩
theorem OpensFine.snoc {l:List PPt}{n:Nat}(h:OpensFine l n){q:PPt}(h1:q.regs.length=8)(h2:∀r∈q.regs,U64 r)(h3:q.told=n)(h4:q.at_≤40):OpensFine (l++[q]) n:=by
 refine⟨fun p hp=>?_,List.pairwise_append.2 ⟨h.told,List.pairwise_singleton _ _,fun a ha b hb=>?_⟩⟩
 ·rcases List.mem_append.1 hp with hp|hp
  ·exact h.all p hp
  ·rw[List.mem_singleton.1 hp];exact⟨h1,h2,by omega,h4⟩
 ·rw[List.mem_singleton.1 hb,h3];exact(h.all a ha).2.2.1
theorem OpensFine.back {l:List PPt}{n k:Nat}(h:OpensFine l n){q:PPt}(hq:l[k]?=some q)(hl:l.length=k+1):OpensFine l.dropLast q.told:=by
 refine⟨fun p hp=>?_,h.init.told⟩
 obtain⟨h1,h2,_,h4⟩:=h.init.all p hp;refine⟨h1,h2,?_,h4⟩;obtain⟨j,hj,e⟩:=List.getElem_of_mem hp;rw[List.getElem_dropLast] at e;obtain⟨hk,e2⟩:=List.getElem?_eq_some_iff.1 hq
 have:=List.pairwise_iff_getElem.1 h.told j k (by simp at hj;omega) hk (by simp at hj;omega)
 rw[e,e2] at this;exact this
structure ItVal (x:PIt):Prop where
 regs:x.regs.length=8
 lim:∀r∈x.regs,U64 r
 opens:OpensFine x.opens x.out.length
 out:x.out.length≤16
 oks:∀i∈x.out,match i with | .num n=>U64 n|_=>True
structure ItFine (dep:Nat→Nat) (x:PIt) (v:PVw):Prop extends ItVal x where
 code:CodeFine dep x.code
 vf:v.fine
 place:x.at_≤x.code.length
 left:x.left≤400
 ways:WaysFine dep x.code x.opens
 live:x.fin=0→x.opens.length+1=v.logs.rows.length∧x.opens.length=dep x.at_
structure ExFine (dep:Nat→Nat) (x:PIt) (e:Nat) (y:PIt) (v':PVw):Prop extends ItVal y where
 vf:v'.fine
 code:y.code=x.code
 place:y.at_=x.at_
 next:e=0→y.next≤x.code.length
 fin:y.fin=0∨e=0∧y.fin=3
 left:y.left=x.left
 ways:WaysFine dep x.code y.opens
 ok:e=0→y.fin=0→y.opens.length+1=v'.logs.rows.length∧y.opens.length=dep y.next
 need:e=11→y=x∧v'.is v'.need=true∧v'.facts.getD v'.need none=none∧y.opens.length+1=v'.logs.rows.length
theorem ItVal.reg {x:PIt}(h:ItVal x)(k:Int):U64 (x.reg k):=by
 unfold PIt.reg;rw[gD];cases e:x.regs[k.toNat%8]? with
 |none=>exact U64.zero
 |some r=>exact h.lim r (List.mem_of_getElem? e)
theorem ItVal.setReg {x:PIt}(h:ItVal x)(k:Int){v:Nat}(hv:U64 v):ItVal (x.setReg k v) :=
 ⟨by simp[PIt.setReg,h.regs],fun r hr=>by
  rcases List.mem_or_eq_of_mem_set hr with h1|h1
  ·exact h.lim r h1
  ·rw[h1];exact hv,h.opens,h.out,h.oks⟩
theorem WaysFine.init {dep:Nat→Nat}{code:List PIns}{l:List PPt}(h:WaysFine dep code l):WaysFine dep code l.dropLast:=fun j p e=>h j p (by
 rw[List.getElem?_dropLast] at e;split at e
 ·exact e
 ·cases e)
theorem WaysFine.snoc {dep:Nat→Nat}{code:List PIns}{l:List PPt}{q:PPt}(h:WaysFine dep code l)(hq:q.op=17→∃m:Nat,(matchP code)[q.at_]?=some (m:Int)∧dep (m+1)=l.length+1∧m+1≤code.length):WaysFine dep code (l++[q]):=fun j p e=>by
 by_cases hj:j<l.length
 ·rw[List.getElem?_append_left hj] at e;exact h j p e
 ·rw[List.getElem?_append_right (by omega)] at e
  obtain⟨n,hn⟩:∃n,j-l.length=n:=⟨_,rfl⟩;rw[hn] at e;cases n with
  |zero =>
   obtain rfl:q=p:=by simpa using e
   rw[show j=l.length by omega]
   exact hq
  |succ n=>simp at e
structure ItIn (dep:Nat→Nat) (x:PIt) (v:PVw):Prop extends ItVal x where
 vf:v.fine
 ways:WaysFine dep x.code x.opens
 len:x.code.length≤40
 fin:x.fin=0
 live:x.opens.length+1=v.logs.rows.length
 dep:x.opens.length=dep x.at_
 at_:x.at_<x.code.length
 next:x.next=x.at_+1
section
variable {dep : Nat → Nat} {x : PIt} {v : PVw} {k : Nat} {i : PIns}
theorem ItIn.same (h:ItIn dep x v){y:PIt}{v':PVw}{e:Nat}(hy:ItVal y)(hv:v'.fine)(h1:y.code=x.code)(h2:y.at_=x.at_)(h3:e=0→y.next≤x.code.length∧dep y.next=dep x.at_)(h4:y.fin=x.fin)(h5:y.left=x.left)(h6:y.opens=x.opens)(h7:v'.logs.rows.length=v.logs.rows.length)
  (h8:e=11→y=x∧v'.is v'.need=true∧v'.facts.getD v'.need none=none):ExFine dep x e y v' :=
 ⟨hy,hv,h1,h2,fun e=>(h3 e).1,.inl (h4.trans h.fin),h5,by rw[h6];exact h.ways,fun e _=>⟨by rw[h6,h7];exact h.live,by rw[h6,(h3 e).2];exact h.dep⟩,fun e=>⟨(h8 e).1,(h8 e).2.1,(h8 e).2.2,by rw[h6,h7];exact h.live⟩⟩
theorem ItIn.on (h:ItIn dep x v)(d:dep (x.at_+1)=dep x.at_){e:Nat}:e=0→x.next≤x.code.length∧dep x.next=dep x.at_:=fun _=>by
 rw[h.next];exact⟨h.at_,d⟩
theorem UL (h:ItIn dep x v)(hi:InsFine dep x.code x.at_ i)(d:dep (x.at_+1)=dep x.at_)(ho:i.op=1):ExFine dep x (x.exec v i).1 (x.exec v i).2.1 (x.exec v i).2.2:=by
 have e:x.exec v i=(0,x.setReg i.a i.n.toNat,v):=by unfold PIt.exec;rw[ho];rfl
 have:=hi.n
 rw[e];exact h.same (h.setReg _ (by unfold U64;omega)) h.vf rfl rfl (h.on d) rfl rfl rfl rfl (by simp)
theorem UN (h:ItIn dep x v)(d:dep (x.at_+1)=dep x.at_)(ho:i.op=3):ExFine dep x (x.exec v i).1 (x.exec v i).2.1 (x.exec v i).2.2:=by
 have e:x.exec v i=(0,x.setReg i.a ((x.reg i.b+x.reg i.c)%18446744073709551616),v):=by unfold PIt.exec;rw[ho];rfl
 rw[e];exact h.same (h.setReg _ (by unfold U64;omega)) h.vf rfl rfl (h.on d) rfl rfl rfl rfl (by simp)
theorem Sh (h:ItIn dep x v)(d:dep i.c.toNat=dep x.at_)(l:i.c.toNat≤x.code.length)(ho:i.op=12):ExFine dep x (x.exec v i).1 (x.exec v i).2.1 (x.exec v i).2.2:=by
 have e:x.exec v i=(0,{x with next:=i.c.toNat},v):=by unfold PIt.exec;rw[ho];rfl
 rw[e];exact h.same ⟨h.regs,h.lim,h.opens,h.out,h.oks⟩ h.vf rfl rfl (fun _=>⟨l,d⟩) rfl rfl rfl rfl (by simp)
theorem Sc (h:ItIn dep x v)(d0:dep (x.at_+1)=dep x.at_)(d:dep i.c.toNat=dep x.at_)(l:i.c.toNat≤x.code.length)(ho:i.op=13):ExFine dep x (x.exec v i).1 (x.exec v i).2.1 (x.exec v i).2.2:=by
 have e:x.exec v i=(0,if x.reg i.a=0 then {x with next:=i.c.toNat} else x,v):=by unfold PIt.exec;rw[ho];rfl
 rw[e];split
 ·exact h.same ⟨h.regs,h.lim,h.opens,h.out,h.oks⟩ h.vf rfl rfl (fun _=>⟨l,d⟩) rfl rfl rfl rfl (by simp)
 ·exact h.same h.toItVal h.vf rfl rfl (h.on d0) rfl rfl rfl rfl (by simp)
theorem Si (h:ItIn dep x v)(d:dep (x.at_+1)=dep x.at_)(ho:i.op=21):ExFine dep x (x.exec v i).1 (x.exec v i).2.1 (x.exec v i).2.2:=by
 have e:x.exec v i=if 16≤x.out.length then(5,x,v) else(0,{x with out:=x.out++[.num (x.reg i.a)]},v):=by unfold PIt.exec;rw[ho];rfl
 rw[e];split
 ·exact h.same h.toItVal h.vf rfl rfl (h.on d) rfl rfl rfl rfl (by simp)
 ·refine h.same ⟨h.regs,h.lim,h.opens.mono (by simp),by simp;omega,fun j hj=>?_⟩ h.vf rfl rfl (h.on d) rfl rfl rfl rfl (by simp)
  simp only[List.mem_append,List.mem_singleton] at hj;rcases hj with hj|rfl
  ·exact h.oks j hj
  ·exact h.reg _
theorem Sf (h:ItIn dep x v)(d:dep (x.at_+1)=dep x.at_)(ho:i.op=8):ExFine dep x (x.exec v i).1 (x.exec v i).2.1 (x.exec v i).2.2:=by
 have e:x.exec v i=if(placeP (x.reg i.b) i.c).2≠0 then((placeP (x.reg i.b) i.c).2,x,v) else((v.read (placeP (x.reg i.b) i.c).1).2.1,if(v.read (placeP (x.reg i.b) i.c).1).2.1=0 then x.setReg i.a (v.read (placeP (x.reg i.b) i.c).1).1 else x,(v.read (placeP (x.reg i.b) i.c).1).2.2):=by unfold PIt.exec;rw[ho];rfl
 have hp:(placeP (x.reg i.b) i.c).2=0∨(placeP (x.reg i.b) i.c).2=2:=by unfold placeP;split<;>simp
 rw[e];by_cases h0:(placeP (x.reg i.b) i.c).2=0
 ·rw[if_neg (by simp[h0])]
  obtain⟨q1,q2,q3,q4,q5,q6⟩:=h.vf.read (placeP (x.reg i.b) i.c).1;generalize v.read (placeP (x.reg i.b) i.c).1=r at *
  obtain⟨y,e9,v'⟩:=r;simp only at q1 q2 q3 q4 q5 q6 ⊢;by_cases h9:e9=0
  ·rw[if_pos h9];exact h.same (h.setReg _ (q3 h9)) q1 rfl rfl (h.on d) rfl rfl rfl (by rw[q2]) (by omega)
  ·rw[if_neg h9];refine h.same h.toItVal q1 rfl rfl (h.on d) rfl rfl rfl (by rw[q2]) fun h8=>?_
   obtain⟨r1,r2,r3⟩:=q4 h8;refine⟨rfl,?_,by rw[q5,r2];exact r3⟩
   unfold PVw.is at r1 ⊢;rw[q5,r2];exact r1
 ·rw[if_pos h0];exact h.same h.toItVal h.vf rfl rfl (h.on d) rfl rfl rfl rfl (by simp only;omega)
theorem QC (h:ItIn dep x v)(d:dep (x.at_+1)=dep x.at_)(ho:i.op=9):ExFine dep x (x.exec v i).1 (x.exec v i).2.1 (x.exec v i).2.2:=by
 have e:x.exec v i=if(placeP (x.reg i.a) i.c).2≠0 then((placeP (x.reg i.a) i.c).2,x,v) else((v.write (placeP (x.reg i.a) i.c).1 (x.reg i.b)).1,x,(v.write (placeP (x.reg i.a) i.c).1 (x.reg i.b)).2):=by unfold PIt.exec;rw[ho];rfl
 have hp:(placeP (x.reg i.a) i.c).2=0∨(placeP (x.reg i.a) i.c).2=2:=by unfold placeP;split<;>simp
 rw[e];by_cases h0:(placeP (x.reg i.a) i.c).2=0
 ·rw[if_neg (by simp[h0])]
  by_cases hle:(placeP (x.reg i.a) i.c).1≤1000000
  ·obtain⟨q1,q2,q3⟩:=h.vf.write hle (h.reg i.b);exact h.same h.toItVal q1 rfl rfl (h.on d) rfl rfl rfl (by rw[q2]) fun h9=>absurd h9 q3
  ·have e2:v.write (placeP (x.reg i.a) i.c).1 (x.reg i.b)=(2,v):=by
    unfold PVw.write;rw[if_pos];unfold PVw.is
    have:=h.vf.facts
    simp;omega
   rw[e2];exact h.same h.toItVal h.vf rfl rfl (h.on d) rfl rfl rfl rfl (by simp)
 ·rw[if_pos h0];exact h.same h.toItVal h.vf rfl rfl (h.on d) rfl rfl rfl rfl (by simp only;omega)
theorem FJ {z:PIt}{u:PVw}{op:Int}{p:Nat}(hz:ItVal z)(hu:u.fine)(hw:WaysFine dep x.code z.opens)(hl:z.opens.length+1=u.logs.rows.length)(hp:p≤40)(h1:z.code=x.code)(h2:z.at_=x.at_)(h3:z.fin=0)(h4:z.left=x.left)(h5:z.next≤x.code.length)(h6:dep z.next=z.opens.length+1)
  (hq:op=17→∃m:Nat,(matchP x.code)[p]?=some (m:Int)∧dep (m+1)=z.opens.length+1∧m+1≤x.code.length):ExFine dep x (z.begin u op p).1 (z.begin u op p).2.1 (z.begin u op p).2.2:=by
 unfold PIt.begin PVw.open_;obtain⟨q1,q2,q3,q4⟩:=hu.logs.open_;simp only;split
 ·rename_i e;exact⟨hz,hu.log q1,h1,h2,fun _=>h5,.inl h3,h4,hw,fun e9=>absurd e9 e,fun e9=>by simp only at e9;omega⟩
 ·rename_i e;refine⟨⟨hz.regs,hz.lim,hz.opens.snoc hz.regs hz.lim rfl hp,hz.out,hz.oks⟩,hu.log q1,h1,h2,fun _=>h5,.inl h3,h4,hw.snoc hq,fun _ _=>⟨?_,?_⟩,by simp⟩
  ·simp only[List.length_append,List.length_singleton];rw[q2 (by simpa using e)]
   omega
  ·simp only[List.length_append,List.length_singleton];exact h6.symm
theorem Nt (h:ItIn dep x v)(d0:dep (x.at_+1)=dep x.at_+1){m:Nat}(hm:(matchP x.code)[x.at_]?=some (m:Int))(d:dep (m+1)=dep x.at_+1)(l:m+1≤x.code.length)(ho:i.op=17):ExFine dep x (x.exec v i).1 (x.exec v i).2.1 (x.exec v i).2.2:=by
 have e:x.exec v i=x.begin v 17 x.at_:=by unfold PIt.exec;rw[ho];rfl
 rw[e];have hd:=h.dep;have hlen:=h.len;have hat:=h.at_;exact FJ h.toItVal h.vf h.ways h.live (by omega) rfl rfl h.fin rfl (by rw[h.next];omega) (by rw[h.next];omega) fun _=>⟨m,hm,by omega,l⟩
theorem Il (h:ItIn dep x v){nx:Nat}(hn:nx≤x.code.length)(d:dep nx+1=dep x.at_):ExFine dep x v.keep.1 {x.leave.2 with next:=nx} v.keep.2:=by
 unfold PVw.keep PIt.leave;obtain⟨q1,q2,q3⟩:=h.vf.logs.keep;have hd:=h.dep;refine⟨⟨h.regs,h.lim,h.opens.init,h.out,h.oks⟩,h.vf.log q1,rfl,rfl,fun _=>hn,.inl h.fin,rfl,h.ways.init,fun h9 _=>⟨?_,?_⟩,fun h9=>absurd h9 q3⟩
 ·have:=q2 h9
  have:=h.live
  simp only[List.length_dropLast];omega
 ·simp only[List.length_dropLast];omega
theorem Uj (h:ItIn dep x v){m:Nat}(hm:(matchP x.code)[x.at_]?=some (m:Int))(d:dep (m+1)+1=dep x.at_)(l:m+1≤x.code.length)(ho:i.op=18):ExFine dep x (x.exec v i).1 (x.exec v i).2.1 (x.exec v i).2.2:=by
 have e:x.exec v i=(v.keep.1,{x.leave.2 with next:=x.match_ x.at_+1},v.keep.2):=by unfold PIt.exec;rw[ho];rfl
 have e2:x.match_ x.at_=m:=by unfold PIt.match_;rw[gD,hm];rfl
 rw[e,e2];exact Il h l d
theorem Sj (h:ItIn dep x v)(d:dep (x.at_+1)+1=dep x.at_)(ho:i.op=19):ExFine dep x (x.exec v i).1 (x.exec v i).2.1 (x.exec v i).2.2:=by
 have e:x.exec v i=(v.keep.1,x.leave.2,v.keep.2):=by unfold PIt.exec;rw[ho];rfl
 rw[e];have h1:=h.next
 have:=Il h (nx:=x.next) (by rw[h1];exact h.at_) (by rw[h1];exact d)
 exact this
theorem Fo {n:Nat}{z:PIt}{u:PVw}(hne:z.opens≠[]){p:PPt}(hp:z.opens.getLastD ⟨0,0,[],0⟩=p):PIt.retryF (n+1) z u =
  if u.drop.1≠0 then(u.drop.1,{z with opens:=z.opens.dropLast},u.drop.2) else
  if p.op=17 then {PIt.back {z with opens:=z.opens.dropLast} p with next:=z.match_ p.at_+1}.begin u.drop.2 18 (z.match_ p.at_)
  else PIt.retryF n {z with opens:=z.opens.dropLast} u.drop.2:=by
 subst hp;rw[PIt.retryF,if_neg hne];rfl
theorem Eb:∀(n:Nat) (z:PIt) (u:PVw),ItVal z→u.fine→WaysFine dep x.code z.opens→z.opens.length+1=u.logs.rows.length→z.opens.length=n→z.code=x.code→z.at_=x.at_→z.fin=0→z.left=x.left→x.code.length≤40→x.at_≤x.code.length →
  ExFine dep x (PIt.retryF n z u).1 (PIt.retryF n z u).2.1 (PIt.retryF n z u).2.2
 |0,z,u,hz,hu,hw,hl,hn,h1,h2,h3,h4,h5,h6 =>
  ⟨⟨hz.regs,hz.lim,hz.opens,hz.out,hz.oks⟩,hu,h1,h2,(fun _=>by show z.at_≤_;omega),.inr ⟨rfl,rfl⟩,h4,hw,(fun _ e=>by cases e),(fun e=>by cases e)⟩
 |n+1,z,u,hz,hu,hw,hl,hn,h1,h2,h3,h4,h5,h6=>by
  have hne:z.opens≠[]:=by intro e;rw[e] at hn;simp at hn
  have hlast:z.opens[n]?=some (z.opens.getLastD ⟨0,0,[],0⟩):=by
   rw[List.getLastD_eq_getLast?,List.getLast?_eq_getElem?,hn,Nat.add_sub_cancel,List.getElem?_eq_getElem (by omega)];rfl
  have hmem:=List.mem_of_getElem? hlast;obtain⟨p,hp⟩:∃p,z.opens.getLastD ⟨0,0,[],0⟩=p:=⟨_,rfl⟩;rw[Fo hne hp];rw[hp] at hlast hmem;clear hp;obtain⟨d1,d2,d3⟩:=hu.logs.drop;have hr:u.drop.1=u.logs.drop.1∧u.drop.2.logs=u.logs.drop.2:=⟨rfl,rfl⟩;have hdf:u.drop.2.fine:=hu.log d1;have hlen:z.opens.dropLast.length=n:=by simp;omega
  have hz2:ItVal {z with opens:=z.opens.dropLast}:=⟨hz.regs,hz.lim,hz.opens.init,hz.out,hz.oks⟩
  by_cases e:u.drop.1=0
  ·rw[if_neg (by simp[e])]
   have hrows:=d2 (by rw[←hr.1];exact e)
   have hrl:n+1=u.drop.2.logs.rows.length:=by rw[hr.2];omega
   by_cases e17:p.op=17
   ·rw[if_pos e17];obtain⟨m,m1,m2,m3⟩:=hw n p hlast e17;obtain⟨o1,o2,o3,o4⟩:=hz.opens.all p hmem;have e2:z.match_ p.at_=m:=by
     show((matchP z.code).getD p.at_ 0).toNat=m
     rw[h1,gD,m1];rfl
    rw[e2];refine FJ (x:=x) (z:={(PIt.back {z with opens:=z.opens.dropLast} p) with next:=m+1}) ⟨o1,o2,?_,?_,?_⟩ hdf hw.init ?_ (by omega) h1 h2 h3 h4 m3 ?_ (fun e=>by cases e)
    ·show OpensFine z.opens.dropLast (z.out.take p.told).length
     rw[List.length_take,Nat.min_eq_left o3];exact hz.opens.back hlast hn
    ·show(z.out.take p.told).length≤16
     have:=hz.out
     simp;omega
    ·intro i hi;exact hz.oks i (List.mem_of_mem_take hi)
    ·show z.opens.dropLast.length+1=_
     rw[hlen];exact hrl
    ·show dep (m+1)=z.opens.dropLast.length+1
     rw[hlen];exact m2
   ·rw[if_neg e17];exact Eb n _ _ hz2 hdf hw.init (by show z.opens.dropLast.length+1=_;rw[hlen];exact hrl) hlen h1 h2 h3 h4 h5 h6
  ·rw[if_pos e];exact⟨hz2,hdf,h1,h2,fun h9=>absurd h9 e,.inl h3,h4,hw.init,fun h9=>absurd h9 e,fun h9=>by simp only at h9;omega⟩
theorem QD (h:ItIn dep x v)(ho:i.op=20):ExFine dep x (x.exec v i).1 (x.exec v i).2.1 (x.exec v i).2.2:=by
 have e:x.exec v i=x.retry v:=by unfold PIt.exec;rw[ho];rfl
 rw[e]
 have:=h.at_
 exact Eb _ x v h.toItVal h.vf h.ways h.live rfl rfl rfl h.fin rfl h.len (by omega)
theorem Ls (h:ItIn dep x v)(hi:InsFine dep x.code x.at_ i):ExFine dep x (x.exec v i).1 (x.exec v i).2.1 (x.exec v i).2.2:=by
 cases hi.op with
 |on h1 d =>
  rcases h1 with h1|h1|h1|h1|h1
  ·exact UL h hi d h1
  ·exact UN h d h1
  ·exact Sf h d h1
  ·exact QC h d h1
  ·exact Si h d h1
 |jump h1 d l=>exact Sh h d l h1
 |zero h1 d0 d l=>exact Sc h d0 d l h1
 |either h1 d0 m hm d l=>exact Nt h d0 hm d l h1
 |or h1 m hm d l=>exact Uj h hm d l h1
 |done h1 d=>exact Sj h d h1
 |retry h1=>exact QD h h1
end
def Fin4 (n:Nat):Prop:=n=0∨n=2∨n=3∨n=4
structure RunFine (dep:Nat→Nat) (r:Nat×PIt×PVw):Prop where
 it:ItFine dep r.2.1 r.2.2
 need:r.1=1→r.2.2.is r.2.2.need=true∧r.2.2.facts.getD r.2.2.need none=none
 fin:r.1=1∨r.1=r.2.1.fin
theorem ItFine.into {dep:Nat→Nat}{x:PIt}{v:PVw}(h:ItFine dep x v)(h0:x.fin=0)(h1:x.at_≠x.code.length):ItIn dep {x with next:=x.at_+1} v:=by
 have:=h.place
 exact⟨⟨h.regs,h.lim,h.opens,h.out,h.oks⟩,h.vf,h.ways,h.code.len,h0,(h.live h0).1,(h.live h0).2,by show x.at_<x.code.length;omega,rfl⟩
theorem ExFine.go {dep:Nat→Nat}{x y:PIt}{v':PVw}{e:Nat}(h:ExFine dep x e y v')(hc:CodeFine dep x.code)(hl:x.left≤400)(he:e=0):ItFine dep {y with at_:=y.next,left:=y.left-1} v' :=
 ⟨⟨h.regs,h.lim,h.opens,h.out,h.oks⟩,by show CodeFine dep y.code;rw[h.code];exact hc,h.vf,by show y.next≤y.code.length;rw[h.code];exact h.next he,by show y.left-1≤400;rw[h.left];omega,by show WaysFine dep y.code y.opens;rw[h.code];exact h.ways,h.ok he⟩
theorem ExFine.ill {dep:Nat→Nat}{x y:PIt}{v':PVw}{e:Nat}(h:ExFine dep x e y v')(hc:CodeFine dep x.code)(hl:x.left≤400)(hp:x.at_≤x.code.length):ItFine dep {y with fin:=4,err:=e} v' :=
 ⟨⟨h.regs,h.lim,h.opens,h.out,h.oks⟩,by show CodeFine dep y.code;rw[h.code];exact hc,h.vf,by show y.at_≤y.code.length;rw[h.code,h.place];exact hp,by show y.left≤400;rw[h.left];exact hl,by show WaysFine dep y.code y.opens;rw[h.code];exact h.ways,by simp⟩
theorem ItFine.end_ {dep:Nat→Nat}{x:PIt}{v:PVw}(h:ItFine dep x v){f e:Nat}(hf:f≠0):ItFine dep {x with fin:=f,err:=e} v :=
 ⟨⟨h.regs,h.lim,h.opens,h.out,h.oks⟩,h.code,h.vf,h.place,h.left,h.ways,fun e=>absurd e hf⟩
theorem DP {dep:Nat→Nat}:∀(n:Nat) (x:PIt) (v:PVw),ItFine dep x v→Fin4 x.fin→RunFine dep (PIt.runF n x v)∧Fin4 (PIt.runF n x v).2.1.fin
 |0,x,v,h,hf=>⟨⟨h,fun e=>by unfold PIt.runF at e;simp only at e;unfold Fin4 at hf;omega,.inr rfl⟩,hf⟩
 |n+1,x,v,h,hf=>by
  unfold PIt.runF;by_cases h1:x.fin≠0
  ·rw[if_pos h1];exact⟨⟨h,fun e=>by simp only at e;unfold Fin4 at hf;omega,.inr rfl⟩,hf⟩
  rw[if_neg h1];by_cases h2:x.at_=x.code.length
  ·rw[if_pos h2];exact⟨⟨h.end_ (e:=x.err) (by omega),by simp,.inr rfl⟩,.inr (.inl rfl)⟩
  rw[if_neg h2];by_cases h3:x.left=0
  ·rw[if_pos h3];exact⟨⟨h.end_ (by omega),by simp,.inr rfl⟩,.inr (.inr (.inr rfl))⟩
  rw[if_neg h3];have hin:=h.into (by omega) h2
  have hx:=Ls hin (h.code.ins x.at_ hin.at_);generalize PIt.exec {x with next:=x.at_+1} v (x.code.getD x.at_ PIns.none)=r at hx
  obtain⟨e,y,v'⟩:=r;simp only at hx ⊢;have hl:=h.left;by_cases h4:e=0
  ·rw[if_pos h4];refine DP n {y with at_:=y.next,left:=y.left-1} v' (hx.go h.code hl h4) ?_
   rcases hx.fin with h9|⟨_,h9⟩
   ·exact .inl h9
   ·exact .inr (.inr (.inl h9))
  rw[if_neg h4];by_cases h5:e=11
  ·rw[if_pos h5];obtain⟨n1,n2,n3,n4⟩:=hx.need h5;subst n1;exact⟨⟨⟨⟨h.regs,h.lim,h.opens,h.out,h.oks⟩,h.code,hx.vf,h.place,h.left,h.ways,fun _=>⟨n4,(h.live (by omega)).2⟩⟩,fun _=>⟨n2,n3⟩,.inl rfl⟩,.inl (by show x.fin=0;omega)⟩
  rw[if_neg h5];exact⟨⟨hx.ill h.code hl (by have:=h.place;exact this),by simp,.inr rfl⟩,.inr (.inr (.inr rfl))⟩
end
theorem BF {ω w:World}{F:HP}{b:Nat}{x:PIt}{D:ItD}(h:Sat ω w (itX b x D*F))(hr:x.regs.length=8)(k:Nat)(hk:k<8)(r:Nat):Sat ω (w.setCell (κ b (6+k)) (.int .u64 r)) (itX b {x with regs:=x.regs.set k r} D*F):=by
 unfold itX at h ⊢;exact(h.assoc.put (6+k) _ (Ll x D k hr hk r)).assoc'
theorem Lk {ω w:World}{F:HP}{b vb:Nat}{x:PIt}{v:PVw}(h:Sat ω w (itH b vb x v*F))(hr:x.regs.length=8)(k:Nat)(hk:k<8)(r:Nat):Sat ω (w.setCell (κ b (6+k)) (.int .u64 r)) (itH b vb {x with regs:=x.regs.set k r} v*F):=by
 obtain⟨D,hD,hx⟩:=AL h;exact Ae hD (BF hx hr k hk r)
theorem PZ {ω w:World}{F:HP}{b:Nat}{x:PIt}{D:ItD}(h:Sat ω w (itX b x D*F))(hr:x.regs.length=8)(r0 r1 r2 r3 r4 r5 r6 r7:Nat):Sat ω ((((((((w.setCell (κ b 6) (υ r0)).setCell (κ b 7) (υ r1)).setCell (κ b 8) (υ r2)).setCell (κ b 9) (υ r3)).setCell (κ b 10) (υ r4)).setCell (κ b 11) (υ r5)).setCell (κ b 12) (υ r6)).setCell (κ b 13) (υ r7)) (itX b {x with regs:=[r0,r1,r2,r3,r4,r5,r6,r7]} D*F):=by
 obtain⟨code,fin,err,regs,out,at_,next,left,opens⟩:=x;obtain⟨s0,s1,s2,s3,s4,s5,s6,s7,rfl⟩:=Bq hr;have g0:=BF h rfl 0 (by omega) r0
 have g1:=BF g0 rfl 1 (by omega) r1
 have g2:=BF g1 rfl 2 (by omega) r2
 have g3:=BF g2 rfl 3 (by omega) r3
 have g4:=BF g3 rfl 4 (by omega) r4
 have g5:=BF g4 rfl 5 (by omega) r5
 have g6:=BF g5 rfl 6 (by omega) r6
 exact BF g6 rfl 7 (by omega) r7
theorem Oq {ω w:World}{F:HP}{b vb:Nat}{x:PIt}{v:PVw}{D:ItD}(hD:D.vb=vb)(h:Sat ω w (itX b x D*(vwH vb v*F)))(hl:x.out.length≤1000)(n:Nat)(hn:n≤x.out.length):
  Calls prog 322 #[.pointer D.sb,n] w (fun e w'=>e=.returned (.tuple #[])∧Sat ω w' (itH b vb {x with out:=x.out.take n} v*F)):=by
 unfold itX at h;have h1:Sat ω w (slH D.sb x.out*(bk b 245 (itC x D)*(row 87 5 (.slice D.pA x.code.length D.pc) x.code.length (x.code.flatMap insV)*(row 3 1 (.slice D.mA (matchP x.code).length D.mc) (matchP x.code).length ((matchP x.code).map (Value.int .i64))*(row 346 11 (.slice D.oA x.opens.length D.oc) x.opens.length (x.opens.flatMap ptV)*(vwH vb v*F)))))):=h.perm (by ac_rfl)
 refine(TY ω w _ D.sb x.out h1 hl n hn).mono ?_;rintro e w' ⟨rfl,h2⟩;refine⟨rfl,Ae (D:=D) hD ?_⟩;exact h2.perm (by unfold itX itC;simp only;ac_rfl)
theorem TM {P:Program}{c:Code}{Q:Exit→Act→World→Prop}{a:Act}{w:World}(R:World→Prop)(h0:R w)(h:∀w',R w'→Code.wp P c Q a w'):Code.wp P c Q a w:=h w h0
theorem SX (ω w:World)(F:HP)(b vb:Nat)(x:PIt)(v:PVw)(h:Sat ω w (itH b vb x v*F))(hr:x.regs.length=8)(p:PPt)(hp:p.regs.length=8)(ht:p.told≤x.out.length)(hl:x.out.length≤1000):
  Calls prog 254 #[.pointer b,.agg (ptV p).toArray] w (Rets ω F (.tuple #[]) (itH b vb (x.back p) v)):=by
 obtain⟨D,hD,hx⟩:=AL h;have hb:=hx.assoc.blk;have lb:=hb.lt;have lb1:b<w.heap.size+1:=by omega
 have fz:=hb.frozen;have cr:∀k,k<8→w.cell? (κ b (6+k))=some (.int .u64 ((x.regs.getD k 0:Nat):Int)):=fun k hk=>by rw[hb.cell,CI x D k hr hk]
 have c6:=cr 0 (by omega)
 have c7:=cr 1 (by omega)
 have c8:=cr 2 (by omega)
 have c9:=cr 3 (by omega)
 have c10:=cr 4 (by omega)
 have c11:=cr 5 (by omega)
 have c12:=cr 6 (by omega)
 have c13:=cr 7 (by omega)
 have c14:w.cell? (κ b 14)=some (.pointer D.sb):=by rw[hb.cell,show(14:Nat)=14+0 from rfl,AN x D 0 hr (by omega)];rfl
 simp only[Nat.add_zero,Nat.reduceAdd] at c6 c7 c8 c9 c10 c11 c12 c13;clear cr;obtain⟨op,at_,regs,told⟩:=p;obtain⟨r0,r1,r2,r3,r4,r5,r6,r7,rfl⟩:=Bq hp;simp only[ptV,List.map_cons,List.map_nil,List.cons_append,List.nil_append] at *
 generalize x.regs.getD 0 0=u0 at *
 generalize x.regs.getD 1 0=u1 at *
 generalize x.regs.getD 2 0=u2 at *
 generalize x.regs.getD 3 0=u3 at *
 generalize x.regs.getD 4 0=u4 at *
 generalize x.regs.getD 5 0=u5 at *
 generalize x.regs.getD 6 0=u6 at *
 generalize x.regs.getD 7 0=u7 at *
 obtain⟨y,hy⟩:∃y,y=x.back ⟨op,at_,[r0,r1,r2,r3,r4,r5,r6,r7],told⟩:=⟨_,rfl⟩;rw[←hy];have HA:Hid (∀o q,(((((((((w.setCell (κ b 6) (υ r0)).setCell (κ b 7) (υ r1)).setCell (κ b 8) (υ r2)).setCell (κ b 9) (υ r3)).setCell (κ b 10) (υ r4)).setCell (κ b 11) (υ r5)).setCell (κ b 12) (υ r6)).setCell (κ b 13) (υ r7)).alloc o).cell? (κ b 14)=some (.pointer D.sb)∧b<(((((((((w.setCell (κ b 6) (υ r0)).setCell (κ b 7) (υ r1)).setCell (κ b 8) (υ r2)).setCell (κ b 9) (υ r3)).setCell (κ b 10) (υ r4)).setCell (κ b 11) (υ r5)).setCell (κ b 12) (υ r6)).setCell (κ b 13) (υ r7)).alloc o).heap.size∧Calls prog 322 #[.pointer D.sb,told] ((((((((((w.setCell (κ b 6) (υ r0)).setCell (κ b 7) (υ r1)).setCell (κ b 8) (υ r2)).setCell (κ b 9) (υ r3)).setCell (κ b 10) (υ r4)).setCell (κ b 11) (υ r5)).setCell (κ b 12) (υ r6)).setCell (κ b 13) (υ r7)).alloc o).drewN q) (fun e w'=>e=.returned (.tuple #[])∧Sat ω w' (itH b vb y v*F))):=h_ (fun o q=>by
  rw[hy];have h1:=(PZ hx hr r0 r1 r2 r3 r4 r5 r6 r7).junk o;refine⟨?_,h1.assoc.blk.lt,Oq hD (h1.drewN q) hl told ht⟩;rw[h1.assoc.blk.cell,show(14:Nat)=14+0 from rfl,AN {x with regs:=[r0,r1,r2,r3,r4,r5,r6,r7]} D 0 rfl (by omega)];rfl)
 generalize D.sb=sb at *
 clear h hx hb hD hr hy hl ht;go_enter func254,ntmps254;go_wp2;refine TM (fun w'=>w'.cell? (κ b 14)=some (.pointer sb)∧b<w'.heap.size∧w'.cell? (κ w.heap.size 10)=some (.int .i64 told)∧w.heap.size<w'.heap.size∧∀q,Calls prog 322 #[.pointer sb,told] (w'.drewN q) (fun e w'=>e=.returned (.tuple #[])∧Sat ω w' (itH b vb y v*F))) ⟨(HA.o _ 0).1,(HA.o _ 0).2.1,(by go_simp),(by simp),fun q=>(HA.o _ q).2.2⟩ ?_
 rintro w' ⟨k14,kb,k10,kw,kc⟩;have HK:=h_ kc;clear HA kc c6 c7 c8 c9 c10 c11 c12 c13 c14 fz lb lb1;generalize w.heap.size=g at *
 refine rT 6 ?_;simp only[sD,sE,sF,sG];repeat still_step
 refine wpStill_nil ?_;go_wp2_with (go_at_call 322;refine(HK.o _).mono ?_;rintro e w1 ⟨rfl,hs⟩;have HZ:=h_ hs;clear hs);exact bodyPost_end (results_none rfl _ _ _) rfl ⟨rfl,HZ.o⟩
structure RtC (w:World) (b vb:Nat) (x:PIt):Prop where
 v:w.cell? (κ b 1)=some (.pointer vb)
 fin:w.cell? (κ b 5)=some (.int .i64 x.fin)
 at_:w.cell? (κ b 15)=some (.int .i64 x.at_)
 next:w.cell? (κ b 16)=some (.int .i64 x.next)
 o:∃A c,w.cell? (κ b 18)=some (.slice A x.opens.length c)
 fz:∀i,w.frozen? (κ b i)=false
 lt:b<w.heap.size
theorem Cb {ω w:World}{F:HP}{b vb:Nat}{x:PIt}{v:PVw}(h:Sat ω w (itH b vb x v*F))(hr:x.regs.length=8):RtC w b vb x:=by
 obtain⟨D,hD,hx⟩:=AL h;have hb:=hx.assoc.blk;refine⟨by rw[hb.cell,AR x D 1 (by omega),←hD];rfl,by rw[hb.cell,AR x D 5 (by omega)];rfl,?_,?_,⟨D.oA,D.oc,?_⟩,hb.frozen,hb.lt⟩
 ·rw[hb.cell,show(15:Nat)=14+1 from rfl,AN x D 1 hr (by omega)];rfl
 ·rw[hb.cell,show(16:Nat)=14+2 from rfl,AN x D 2 hr (by omega)];rfl
 ·rw[hb.cell,show(18:Nat)=14+4 from rfl,AN x D 4 hr (by omega)];rfl
def rtLeft (b:Nat)(w:World):Nat:=match w.cell? (κ b 18) with
 |some (.slice _ n _)=>n
 |_=>0
theorem Fn {ω w:World}{F:HP}{b vb:Nat}{x:PIt}{v:PVw}(h:Sat ω w (itH b vb x v*F))(hr:x.regs.length=8):rtLeft b w=x.opens.length:=by
 obtain⟨A,c,e⟩:=(Cb h hr).o;unfold rtLeft;rw[e]
structure RtInv (ω:World) (F:HP) (b vb:Nat) (dep:Nat→Nat) (R:Nat×PIt×PVw) (w:World) (x:PIt) (v:PVw):Prop where
 sat:Sat ω w (itH b vb x v*F)
 val:ItVal x
 vf:v.fine
 ways:WaysFine dep x.code x.opens
 live:x.opens.length+1=v.logs.rows.length
 len:x.code.length≤40
 at_:x.at_≤40
 run:PIt.retryF x.opens.length x v=R
theorem Pd (ω w:World)(F:HP)(b vb:Nat)(x:PIt)(v:PVw)(dep:Nat→Nat)(R:Nat×PIt×PVw)(h:RtInv ω F b vb dep R w x v):
  Calls prog 256 #[.pointer b] w (Rets ω F (.int .i64 R.1) (itH b vb R.2.1 R.2.2)):=by
 have H0:=h_ h;clear h;go_enter func256,ntmps256;go_wp2;go_loopw [2] (fun s wr=>s=.int .i64 0∧∃x' v',Hid (RtInv ω F b vb dep R wr x' v')) (fun _ wr=>rtLeft b wr)
 case atStart=>exact⟨rfl,x,v,H0⟩
 case round =>
  obtain⟨rfl,x',v',HI⟩:=hrel;have hI:=HI.o;have hrg:=hI.val.regs;have hrun:=hI.run;obtain⟨q1,q5,q15,q16,⟨A,c,q18⟩,qf,ql⟩:=Cb hI.sat hrg;have hME:rtLeft b wr=x'.opens.length:=Fn hI.sat hrg;by_cases h0:x'.opens=[]
  ·have hR:R=(0,{x' with next:=x'.at_,fin:=3},v'):=by
    have e0:x'.opens.length=0:=by rw[h0];rfl
    rw[←hrun,e0];rfl
   have HS:Hid (Sat ω ((wr.setCell (κ b 16) x'.at_).setCell (κ b 5) (.int .i64 ((3:Nat):Int))) (itH b vb {x' with next:=x'.at_,fin:=3} v'*F)):=h_ (Az (Az hI.sat 16 _ (fun D=>BT x' D hrg x'.at_) rfl rfl rfl) 5 _ (fun D=>Dj {x' with next:=x'.at_} D hrg 3) rfl rfl rfl)
   have HR:=h_ hR;rw[h0] at q18;simp only[List.length_nil] at q18;have hfz:=qf;obtain⟨z,hz⟩:∃z,z=({x' with next:=x'.at_,fin:=3}:PIt):=⟨_,rfl⟩
   rw[←hz] at HR HS;clear hz;generalize x'.at_=AT at *
   clear hI hrun hME hR HI h0 H0;go_wp2;go_ret;rw[HR.o];exact⟨rfl,HS.o⟩
  ·obtain⟨p,hp⟩:∃p,x'.opens.getLast h0=p:=⟨_,rfl⟩;have e9:x'.opens=x'.opens.dropLast++[p]:=by rw[←hp];exact(List.dropLast_concat_getLast h0).symm
   have hk:x'.opens.length=x'.opens.dropLast.length+1:=by have:=List.length_pos_iff.2 h0;rw[List.length_dropLast];omega
   have hlast:x'.opens[x'.opens.dropLast.length]?=some p:=by
    conv=>lhs;lhs;rw[e9]
    simp
   have hD:x'.opens.getLastD ⟨0,0,[],0⟩=p:=by rw[e9];simp
   obtain⟨o1,o2,o3,o4⟩:=hI.val.opens.all p (by rw[←hp];exact List.getLast_mem h0)
   have hfew:=hI.vf.logs.few;have hlv:=hI.live;have hout:=hI.val.out;obtain⟨d1,d2,d3⟩:=hI.vf.logs.drop;have hd0:v'.drop.1=0:=by show v'.logs.drop.1=0;unfold PLv.drop;rw[if_neg (by omega)]
   have hrows:v'.drop.2.logs.rows.length+1=v'.logs.rows.length:=d2 hd0;have hdf:v'.drop.2.fine:=hI.vf.log d1;rw[hk,Fo h0 hD,if_neg (by simp[hd0])] at hrun
   have hval:ItVal {x' with opens:=x'.opens.dropLast}:=⟨hI.val.regs,hI.val.lim,hI.val.opens.init,hI.val.out,hI.val.oks⟩
   have HL:Hid (Calls prog 252 #[.pointer b] wr (Rets ω F (.agg (ptV p).toArray) (itH b vb {x' with opens:=x'.opens.dropLast} v'))):=h_ (Eo ω wr F b vb x' v' hI.sat hrg _ p e9 o1 (fun q hq=>(hI.val.opens.init.all q hq).1) (by omega))
   obtain⟨y,hy⟩:∃y,y=({x' with opens:=x'.opens.dropLast}:PIt):=⟨_,rfl⟩
   rw[←hy] at hrun hval HL;have hyr:y.regs.length=8:=hval.regs;have HV:Hid (∀w1,Sat ω w1 (itH b vb y v'*F)→(w1.alloc (.cells (ptV p).toArray 346)).cell? (κ b 1)=some (.pointer vb)∧b<w1.heap.size∧Calls prog 255 #[.pointer vb] (w1.alloc (.cells (ptV p).toArray 346)) (Rets ω (bk w1.heap.size 346 (ptV p).toArray*F) (.int .i64 0) (itH b vb y v'.drop.2))):=h_ (fun w1 h1=>by
    have h2:Sat ω (w1.alloc (.cells (ptV p).toArray 346)) (itH b vb y v'*(bk w1.heap.size 346 (ptV p).toArray*F)):=(h1.bkNew rfl).swap;obtain⟨D,hD,hx⟩:=AL h2;refine⟨(Cb h2 hyr).v,(Cb h1 hyr).lt,?_⟩;refine(Rd ω _ _ vb v' hx.swap hI.vf.ok).mono ?_;rintro e w2 ⟨rfl,h3⟩;refine⟨by rw[hd0];rfl,Ae hD h3.swap⟩)
   have yc:y.code=x'.code:=by rw[hy]
   have yo:y.opens=x'.opens.dropLast:=by rw[hy]
   have yu:y.out=x'.out:=by rw[hy]
   have ya:y.at_=x'.at_:=by rw[hy]
   clear hy e9 hp HI;obtain⟨op,pat,pregs,told⟩:=p;obtain⟨r0,r1,r2,r3,r4,r5,r6,r7,rfl⟩:=Bq o1;obtain⟨v2,hv2⟩:∃v2,v'.drop.2=v2:=⟨_,rfl⟩;rw[hv2] at hrun HV hdf hrows;have HQ:Hid (∀w2 g G,Sat ω w2 (itH b vb y v2*(bk g 346 (ptV ⟨op,pat,[r0,r1,r2,r3,r4,r5,r6,r7],told⟩).toArray*G))→g<w2.heap.size∧w2.cell? (κ g 0)=some (.int .i64 op)∧w2.cell? (κ g 1)=some (.int .i64 pat)∧w2.cell? (κ g 2)=some (.int .u64 r0)∧w2.cell? (κ g 3)=some (.int .u64 r1)∧w2.cell? (κ g 4)=some (.int .u64 r2)∧w2.cell? (κ g 5)=some (.int .u64 r3)∧w2.cell? (κ g 6)=some (.int .u64 r4)∧w2.cell? (κ g 7)=some (.int .u64 r5)∧w2.cell? (κ g 8)=some (.int .u64 r6)∧w2.cell? (κ g 9)=some (.int .u64 r7)∧w2.cell? (κ g 10)=some (.int .i64 told)):=h_ (fun w2 g G h2=>by
    have hb:=h2.right.blk;exact⟨hb.lt,hb.cell 0,hb.cell 1,hb.cell 2,hb.cell 3,hb.cell 4,hb.cell 5,hb.cell 6,hb.cell 7,hb.cell 8,hb.cell 9,hb.cell 10⟩)
   have hlen:(x'.opens.length:Int)≤100:=by omega
   have hpos:0<(x'.opens.length:Int):=by omega
   simp only[ptV,List.map_cons,List.map_nil,List.cons_append,List.nil_append] at HL HV HQ;by_cases h17:op=17
   ·subst h17;obtain⟨m,m1,m2,m3⟩:=hI.ways _ _ hlast rfl;have hlc:=hI.len;have hmat:x'.match_ pat=m:=by unfold PIt.match_;rw[gD,m1];rfl
    rw[if_pos rfl] at hrun;simp only[hmat] at hrun;obtain⟨z,hz⟩:∃z,z=y.back ⟨17,pat,[r0,r1,r2,r3,r4,r5,r6,r7],told⟩:=⟨_,rfl⟩;rw[←hz] at hrun;have zr:z.regs.length=8:=by rw[hz];rfl
    have zo:z.opens.length≤100:=by rw[hz];show y.opens.length≤100;rw[yo];omega
    have zu:z.out.length≤100:=by rw[hz];show(y.out.take told).length≤100;rw[yu,List.length_take];omega
    have zc:z.code=x'.code:=by rw[hz];exact yc
    have HB:Hid (∀w2 G,Sat ω w2 (itH b vb y v2*G)→Calls prog 254 #[.pointer b,.agg #[ι 17,pat,υ r0,υ r1,υ r2,υ r3,υ r4,υ r5,υ r6,υ r7,told]] w2 (Rets ω G (.tuple #[]) (itH b vb z v2))):=h_ (fun w2 G h2=>by
     rw[hz];exact SX ω w2 G b vb y v2 h2 hyr ⟨17,pat,[r0,r1,r2,r3,r4,r5,r6,r7],told⟩ rfl (by rw[yu];exact o3) (by rw[yu];omega))
    have HM:Hid (∀w3 g G,Sat ω w3 (itH b vb z v2*(bk g 346 G*F))→∃gm c n nx,w3.cell? (κ b 2)=some (.slice (some ⟨gm,0,none⟩) n c)∧gm<w3.heap.size∧w3.cell? (κ gm pat)=some (.int .i64 m)∧pat<n∧b<w3.heap.size∧(∀i,w3.frozen? (κ b i)=false)∧w3.cell? (κ b 16)=some (.int .i64 nx)∧Calls prog 251 #[.pointer b,ι 18,m] (w3.drew.setCell (κ b 16) (.int .i64 ((m:Int)+1))) (Rets ω F (.int .i64 R.1) (itH b vb R.2.1 R.2.2))):=h_ (fun w3 g G h3=>by
     have h4:Sat ω w3 (itH b vb z v2*F):=h3.swap.right;obtain⟨gm,c,k1,k2,k3⟩:=Ic h4 (k:=pat) (m:=m) (by rw[zc];exact m1)
     have hC:=Cb h4 zr;refine⟨gm,c,_,_,k1,k2,k3,by rw[zc];exact(List.getElem?_eq_some_iff.1 m1).1,hC.lt,hC.fz,hC.next,?_⟩
     have h5:Sat ω (w3.drew.setCell (κ b 16) (.int .i64 ((m:Int)+1))) (itH b vb {z with next:=m+1} v2*F):=Az h4.drew 16 _ (fun D=>BT z D zr (m+1)) rfl rfl rfl
     rw[←hrun];exact Id ω _ F b vb {z with next:=m+1} v2 h5 zr hdf.ok zo zu 18 m)
    have HQ3:Hid (∀w3 g G,Sat ω w3 (itH b vb z v2*(bk g 346 #[ι 17,pat,υ r0,υ r1,υ r2,υ r3,υ r4,υ r5,υ r6,υ r7,told]*G))→g<w3.heap.size∧w3.cell? (κ g 1)=some (.int .i64 pat)):=h_ (fun w3 g G h3=>⟨h3.right.blk.lt,h3.right.blk.cell 1⟩)
    have hmI:(m:Int)≤1000:=by omega
    have hm0:0≤(m:Int):=by omega
    clear hz hrun hI hval hlast hD hdf hME o1 o2 o3 o4 H0 m1 zc hk yo hlv zo zu hout hrows hfew yc yu ya hlc d1 d2 d3 hv2 hd0 hmat h0 zr hyr hrg;generalize x'.opens.length=NO at *
    go_wp2_with (first
     |(go_at_call 252;refine(HL.o).mono ?_;rintro e w1 ⟨rfl,hs⟩;obtain⟨k1,k2,k3⟩:=HV.o _ hs;have HD:=h_ k3;clear hs k3)
     |(go_at_call 255;refine(HD.o).mono ?_;rintro e w2 ⟨rfl,hs⟩;obtain⟨lg,b0,b1,b2,b3,b4,b5,b6,b7,b8,b9,b10⟩:=HQ.o _ _ _ hs;have HB2:=h_ (HB.o _ _ hs);clear hs)
     |(go_at_call 254;refine(HB2.o).mono ?_;rintro e w3 ⟨rfl,hs⟩;obtain⟨gm,c3,n3,nx,j1,j2,j3,j4,j5,j6,j7,j8⟩:=HM.o _ _ _ hs;obtain⟨lg3,b13⟩:=HQ3.o _ _ _ hs;have HG:=h_ j8;clear hs j8))
    refine rT 8 ?_;simp only[sD,sE,sF,sG];repeat still_step
    refine wpStill_nil ?_;go_wp2_with (go_at_call 251;refine(HG.o).mono ?_;rintro e w4 ⟨rfl,hs⟩;have HZ:=h_ hs;clear hs);go_ret;exact⟨rfl,HZ.o⟩
   ·rw[if_neg h17] at hrun;have HN:Hid (∀w2 g G,Sat ω w2 (itH b vb y v2*(bk g 346 G*F))→RtInv ω F b vb dep R w2 y v2∧rtLeft b w2<rtLeft b wr):=h_ (fun w2 g G h2=>by
     have h3:Sat ω w2 (itH b vb y v2*F):=h2.swap.right;refine⟨⟨h3,hval,hdf,by rw[yc,yo];exact hI.ways.init,by rw[yo];omega,by rw[yc];exact hI.len,by rw[ya];exact hI.at_,by rw[yo];exact hrun⟩,?_⟩
     rw[hME,Fn h3 hyr,yo];omega)
    have d17:(op==17)=false:=by simpa using h17
    clear hrun hI hval hlast hD hdf hME o1 o2 o3 o4 H0 hk yo hlv hout hrows hfew yc yu ya d1 d2 d3 hv2 hd0 h0 hyr hrg;generalize x'.opens.length=NO at *
    go_wp2_with (first
     |(go_at_call 252;refine(HL.o).mono ?_;rintro e w1 ⟨rfl,hs⟩;obtain⟨k1,k2,k3⟩:=HV.o _ hs;have HD:=h_ k3;clear hs k3)
     |(go_at_call 255;refine(HD.o).mono ?_;rintro e w2 ⟨rfl,hs⟩;obtain⟨lg,b0,_⟩:=HQ.o _ _ _ hs;have HZ:=h_ (HN.o _ _ _ hs);clear hs))
    go_roundw
    case rel=>exact⟨rfl,_,_,h_ HZ.o.1⟩
    case measure=>exact HZ.o.2
theorem NS (ω w:World)(F:HP)(b vb:Nat)(x:PIt)(v:PVw)(dep:Nat→Nat)(R:Nat×PIt×PVw)(h:RtInv ω F b vb dep R w x v)(a' b' c' n':Int):
  Calls prog 215 #[.pointer b,.agg #[ι 20,a',b',c',υ n']] w (Rets ω F (.int .i64 R.1) (itH b vb R.2.1 R.2.2)):=by
 have HL:Hid (∀o,Calls prog 256 #[.pointer b] (w.alloc o) (Rets ω F (.int .i64 R.1) (itH b vb R.2.1 R.2.2))):=h_ (fun o=>Pd ω _ F b vb x v dep R ⟨h.sat.junk o,h.val,h.vf,h.ways,h.live,h.len,h.at_,h.run⟩)
 clear h;go_enter func215,ntmps215;go_wp2_with (go_at_call 256;refine(HL.o _).mono ?_;rintro e w1 ⟨rfl,hs⟩;have HS:=h_ hs;clear hs);go_ret;exact⟨rfl,HS.o⟩
section
variable (ω w : World) (F : HP)
structure IpC (w:World) (b:Nat) (x:PIt) (ka kb kc:Nat):Prop where
 ca:w.cell? (κ b (6+ka))=some (.int .u64 ((x.regs.getD ka 0:Nat):Int))
 cb:w.cell? (κ b (6+kb))=some (.int .u64 ((x.regs.getD kb 0:Nat):Int))
 cc:w.cell? (κ b (6+kc))=some (.int .u64 ((x.regs.getD kc 0:Nat):Int))
 fz:∀i,w.frozen? (κ b i)=false
 lt:b<w.heap.size
theorem BC {ω w:World}{F:HP}{b vb:Nat}{x:PIt}{v:PVw}(h:Sat ω w (itH b vb x v*F))(hr:x.regs.length=8){ka kb kc:Nat}(h1:ka<8)(h2:kb<8)(h3:kc<8):IpC w b x ka kb kc:=by
 obtain⟨D,hD,hx⟩:=AL h;have hb:=hx.assoc.blk;exact⟨by rw[hb.cell,CI x D ka hr h1],by rw[hb.cell,CI x D kb hr h2],by rw[hb.cell,CI x D kc hr h3],hb.frozen,hb.lt⟩
theorem Oo {ω w:World}{F:HP}{b vb:Nat}{x:PIt}{v:PVw}{D:ItD}(hD:D.vb=vb)(h:Sat ω w (itX b x D*(vwH vb v*F)))(hl:x.out.length≤1000)(n:Nat):
  Calls prog 212 #[.pointer D.sb,υ n] w (Rets ω F (.bool (decide (x.out.length<16))) (itH b vb {x with out:=if x.out.length<16 then x.out++[.num n] else x.out} v)):=by
 unfold itX at h;have h1:Sat ω w (slH D.sb x.out*(bk b 245 (itC x D)*(row 87 5 (.slice D.pA x.code.length D.pc) x.code.length (x.code.flatMap insV)*(row 3 1 (.slice D.mA (matchP x.code).length D.mc) (matchP x.code).length ((matchP x.code).map (Value.int .i64))*(row 346 11 (.slice D.oA x.opens.length D.oc) x.opens.length (x.opens.flatMap ptV)*(vwH vb v*F)))))):=h.perm (by ac_rfl)
 refine(Mg ω w _ D.sb x.out h1 hl n).mono ?_;rintro e w' ⟨rfl,h2⟩;refine⟨rfl,Ae (D:=D) hD ?_⟩;exact h2.perm (by unfold itX itC;simp only;ac_rfl)
theorem UF (b vb:Nat)(x:PIt)(v:PVw)(h:Sat ω w (itH b vb x v*F))(hr:x.regs.length=8)(ka kb kc n:Nat)(h1:ka<8)(h2:kb<8)(h3:kc≤40):
  Calls prog 183 #[.pointer b,.agg #[ι 1,ka,kb,kc,υ n]] w (Rets ω F (.int .i64 (0)) (itH b vb ({x with regs:=x.regs.set ka n}) (v))):=by
 obtain⟨m,hm⟩:∃m,kc%8=m:=⟨_,rfl⟩;have hC:∀o,IpC (w.alloc o) b x ka kb m:=fun o=>BC (h.junk o) hr h1 h2 (by omega)
 have ca:=fun o=>(hC o).ca
 have cb:=fun o=>(hC o).cb
 have cc:=fun o=>(hC o).cc
 have fz:=fun o=>(hC o).fz
 have lb1:b<w.heap.size+1:=by have:=(hC (.cells #[] 0)).lt;simpa using this
 have HX:Hid (∀o q,Sat ω ((w.alloc o).drewN q) (itH b vb x v*F)):=h_ (fun o q=>(h.junk o).drewN q)
 have ta:Int.tmod (ka:Int) 8=(ka:Int):=by rw[Int.tmod_eq_emod_of_nonneg (by omega)];omega
 have tb:Int.tmod (kb:Int) 8=(kb:Int):=by rw[Int.tmod_eq_emod_of_nonneg (by omega)];omega
 have tc:Int.tmod (kc:Int) 8=(m:Int):=by rw[Int.tmod_eq_emod_of_nonneg (by omega)];omega
 have ga:(ka:Int)<8:=by omega
 have gb:(kb:Int)<8:=by omega
 have gm:(m:Int)<8:=by omega
 have HS:Hid (∀w1 (r:Nat),Sat ω w1 (itH b vb x v*F)→Sat ω (w1.setCell (κ b (6+ka)) (.int .u64 r)) (itH b vb {x with regs:=x.regs.set ka r} v*F)):=h_ (fun w1 r hw=>Lk hw hr ka h1 r)
 generalize x.regs.getD ka 0=RA at *
 generalize x.regs.getD kb 0=RB at *
 generalize x.regs.getD m 0=RC at *
 clear h hC hr;go_enter func183,ntmps183;go_wp2;go_quiet (fail);go_wp2;go_ret;exact⟨rfl,HS.o _ _ (HX.o _ _)⟩
theorem SQ (b vb:Nat)(x:PIt)(v:PVw)(h:Sat ω w (itH b vb x v*F))(hr:x.regs.length=8)(hl:x.out.length≤16)(ka kb kc n:Nat)(h1:ka<8)(h2:kb<8)(h3:kc≤40):
  Calls prog 183 #[.pointer b,.agg #[ι 21,ka,kb,kc,υ n]] w (Rets ω F (.int .i64 ((if 16≤x.out.length then 5 else 0:Nat))) (itH b vb ({x with out:=if x.out.length<16 then x.out++[.num (x.regs.getD ka 0)] else x.out}) (v))):=by
 obtain⟨m,hm⟩:∃m,kc%8=m:=⟨_,rfl⟩;have hC:∀o,IpC (w.alloc o) b x ka kb m:=fun o=>BC (h.junk o) hr h1 h2 (by omega)
 have ca:=fun o=>(hC o).ca
 have cb:=fun o=>(hC o).cb
 have cc:=fun o=>(hC o).cc
 have fz:=fun o=>(hC o).fz
 have lb1:b<w.heap.size+1:=by have:=(hC (.cells #[] 0)).lt;simpa using this
 have HX:Hid (∀o q,Sat ω ((w.alloc o).drewN q) (itH b vb x v*F)):=h_ (fun o q=>(h.junk o).drewN q)
 have ta:Int.tmod (ka:Int) 8=(ka:Int):=by rw[Int.tmod_eq_emod_of_nonneg (by omega)];omega
 have tb:Int.tmod (kb:Int) 8=(kb:Int):=by rw[Int.tmod_eq_emod_of_nonneg (by omega)];omega
 have tc:Int.tmod (kc:Int) 8=(m:Int):=by rw[Int.tmod_eq_emod_of_nonneg (by omega)];omega
 have ga:(ka:Int)<8:=by omega
 have gb:(kb:Int)<8:=by omega
 have gm:(m:Int)<8:=by omega
 obtain⟨D,hD,hx⟩:=AL h;have c14:∀o q,((w.alloc o).drewN q).cell? (κ b 14)=some (.pointer D.sb):=fun o q=>by
  have h9:=((hx.junk o).drewN q).assoc.blk.cell 14;rw[show(14:Nat)=14+0 from rfl,AN x D 0 hr (by omega)] at h9
  exact h9
 have ca2:∀o q,((w.alloc o).drewN q).cell? (κ b (6+ka))=some (.int .u64 ((x.regs.getD ka 0:Nat):Int)):=fun o q=>(BC ((h.junk o).drewN q) hr h1 h2 (show 0<8 by omega)).ca
 have HA:Hid (∀o q,Calls prog 212 #[.pointer D.sb,υ (x.regs.getD ka 0:Nat)] ((w.alloc o).drewN q).drew (Rets ω F (.bool (decide (x.out.length<16))) (itH b vb {x with out:=if x.out.length<16 then x.out++[.num (x.regs.getD ka 0)] else x.out} v))):=h_ (fun o q=>Oo hD (((hx.junk o).drewN q).drew) (by omega) _)
 obtain⟨y,hy⟩:∃y,y=({x with out:=if x.out.length<16 then x.out++[.num (x.regs.getD ka 0)] else x.out}:PIt):=⟨_,rfl⟩
 rw[←hy] at HA ⊢;have hd:(if 16≤x.out.length then 5 else 0:Nat)=if decide (x.out.length<16)=true then 0 else 5:=by by_cases h9:x.out.length<16<;>simp[h9]<;>omega
 rw[hd];generalize decide (x.out.length<16)=d at *
 generalize D.sb=sb at *
 clear hy hd hl hx hD;generalize x.regs.getD ka 0=RA at *
 generalize x.regs.getD kb 0=RB at *
 generalize x.regs.getD m 0=RC at *
 clear h hC hr;cases d
 ·rw[if_neg (by simp)]
  go_enter func183,ntmps183;go_wp2;go_quiet (fail);go_wp2;refine rT 7 ?_;simp only[sD,sE,sF,sG];repeat still_step
  refine wpStill_nil ?_;go_wp2_with (go_at_call 212;refine(HA.o _ _).mono ?_;rintro e w1 ⟨rfl,hs⟩;have HZ:=h_ hs;clear hs);go_ret;exact⟨rfl,HZ.o⟩
 ·rw[if_pos rfl];go_enter func183,ntmps183;go_wp2;go_quiet (fail);go_wp2;refine rT 7 ?_;simp only[sD,sE,sF,sG];repeat still_step
  refine wpStill_nil ?_;go_wp2_with (go_at_call 212;refine(HA.o _ _).mono ?_;rintro e w1 ⟨rfl,hs⟩;have HZ:=h_ hs;clear hs);go_ret;exact⟨rfl,HZ.o⟩
theorem UD (b vb:Nat)(x:PIt)(v:PVw)(h:Sat ω w (itH b vb x v*F))(hr:x.regs.length=8)(ho:v.ok)(ka kb kc n:Nat)(h1:ka<8)(h2:kb<8)(h3:kc≤40):
  Calls prog 183 #[.pointer b,.agg #[ι 8,ka,kb,kc,υ n]] w (Rets ω F (.int .i64 (((loadP x v ka (x.regs.getD kb 0) (kc:Int)).1:Int))) (itH b vb ((loadP x v ka (x.regs.getD kb 0) (kc:Int)).2.1) ((loadP x v ka (x.regs.getD kb 0) (kc:Int)).2.2))):=by
 obtain⟨m,hm⟩:∃m,kc%8=m:=⟨_,rfl⟩;have hC:∀o,IpC (w.alloc o) b x ka kb m:=fun o=>BC (h.junk o) hr h1 h2 (by omega)
 have ca:=fun o=>(hC o).ca
 have cb:=fun o=>(hC o).cb
 have cc:=fun o=>(hC o).cc
 have fz:=fun o=>(hC o).fz
 have lb1:b<w.heap.size+1:=by have:=(hC (.cells #[] 0)).lt;simpa using this
 have HX:Hid (∀o q,Sat ω ((w.alloc o).drewN q) (itH b vb x v*F)):=h_ (fun o q=>(h.junk o).drewN q)
 have ta:Int.tmod (ka:Int) 8=(ka:Int):=by rw[Int.tmod_eq_emod_of_nonneg (by omega)];omega
 have tb:Int.tmod (kb:Int) 8=(kb:Int):=by rw[Int.tmod_eq_emod_of_nonneg (by omega)];omega
 have tc:Int.tmod (kc:Int) 8=(m:Int):=by rw[Int.tmod_eq_emod_of_nonneg (by omega)];omega
 have ga:(ka:Int)<8:=by omega
 have gb:(kb:Int)<8:=by omega
 have gm:(m:Int)<8:=by omega
 have HT:Hid (∀o q,Calls prog 214 #[.pointer b,.agg #[ι 8,ka,kb,kc,υ n],.pointer (some ⟨b,6+ka,none⟩),υ (x.regs.getD kb 0:Nat)] ((w.alloc o).drewN q) (Rets ω F (.int .i64 ((loadP x v ka (x.regs.getD kb 0) (kc:Int)).1:Int)) (itH b vb (loadP x v ka (x.regs.getD kb 0) (kc:Int)).2.1 (loadP x v ka (x.regs.getD kb 0) (kc:Int)).2.2))):=h_ (fun o q=>SP ω _ F b vb x v ((h.junk o).drewN q) hr ho (ka:Int) (kb:Int) (kc:Int) (n:Int) (by omega) ka h1 (x.regs.getD kb 0))
 obtain⟨R,hR⟩:∃R,loadP x v ka (x.regs.getD kb 0) (kc:Int)=R:=⟨_,rfl⟩;rw[hR] at HT ⊢;clear hR ho;generalize x.regs.getD ka 0=RA at *
 generalize x.regs.getD kb 0=RB at *
 generalize x.regs.getD m 0=RC at *
 clear h hC hr;go_enter func183,ntmps183;go_wp2;go_quiet (fail);go_wp2_with (go_at_call 214;refine(HT.o _ _).mono ?_;rintro e w1 ⟨rfl,hs⟩;have HZ:=h_ hs;clear hs);go_ret;exact⟨rfl,HZ.o⟩
theorem UC (b vb:Nat)(x:PIt)(v:PVw)(h:Sat ω w (itH b vb x v*F))(hr:x.regs.length=8)(ho:v.ok)(ka kb kc n:Nat)(h1:ka<8)(h2:kb<8)(h3:kc≤40):
  Calls prog 183 #[.pointer b,.agg #[ι 9,ka,kb,kc,υ n]] w (Rets ω F (.int .i64 (((storeP x v (x.regs.getD ka 0) (x.regs.getD kb 0) (kc:Int)).1:Int))) (itH b vb ((storeP x v (x.regs.getD ka 0) (x.regs.getD kb 0) (kc:Int)).2.1) ((storeP x v (x.regs.getD ka 0) (x.regs.getD kb 0) (kc:Int)).2.2))):=by
 obtain⟨m,hm⟩:∃m,kc%8=m:=⟨_,rfl⟩;have hC:∀o,IpC (w.alloc o) b x ka kb m:=fun o=>BC (h.junk o) hr h1 h2 (by omega)
 have ca:=fun o=>(hC o).ca
 have cb:=fun o=>(hC o).cb
 have cc:=fun o=>(hC o).cc
 have fz:=fun o=>(hC o).fz
 have lb1:b<w.heap.size+1:=by have:=(hC (.cells #[] 0)).lt;simpa using this
 have HX:Hid (∀o q,Sat ω ((w.alloc o).drewN q) (itH b vb x v*F)):=h_ (fun o q=>(h.junk o).drewN q)
 have ta:Int.tmod (ka:Int) 8=(ka:Int):=by rw[Int.tmod_eq_emod_of_nonneg (by omega)];omega
 have tb:Int.tmod (kb:Int) 8=(kb:Int):=by rw[Int.tmod_eq_emod_of_nonneg (by omega)];omega
 have tc:Int.tmod (kc:Int) 8=(m:Int):=by rw[Int.tmod_eq_emod_of_nonneg (by omega)];omega
 have ga:(ka:Int)<8:=by omega
 have gb:(kb:Int)<8:=by omega
 have gm:(m:Int)<8:=by omega
 have HT:Hid (∀o q,Calls prog 214 #[.pointer b,.agg #[ι 9,ka,kb,kc,υ n],.pointer (some ⟨b,6+ka,none⟩),υ (x.regs.getD kb 0:Nat)] ((w.alloc o).drewN q) (Rets ω F (.int .i64 ((storeP x v (x.regs.getD ka 0) (x.regs.getD kb 0) (kc:Int)).1:Int)) (itH b vb (storeP x v (x.regs.getD ka 0) (x.regs.getD kb 0) (kc:Int)).2.1 (storeP x v (x.regs.getD ka 0) (x.regs.getD kb 0) (kc:Int)).2.2))):=h_ (fun o q=>Pb ω _ F b vb x v ((h.junk o).drewN q) hr ho (ka:Int) (kb:Int) (kc:Int) (n:Int) (by omega) ka h1 (x.regs.getD kb 0))
 obtain⟨R,hR⟩:∃R,storeP x v (x.regs.getD ka 0) (x.regs.getD kb 0) (kc:Int)=R:=⟨_,rfl⟩;rw[hR] at HT ⊢;clear hR ho;generalize x.regs.getD ka 0=RA at *
 generalize x.regs.getD kb 0=RB at *
 generalize x.regs.getD m 0=RC at *
 clear h hC hr;go_enter func183,ntmps183;go_wp2;go_quiet (fail);go_wp2_with (go_at_call 214;refine(HT.o _ _).mono ?_;rintro e w1 ⟨rfl,hs⟩;have HZ:=h_ hs;clear hs);go_ret;exact⟨rfl,HZ.o⟩
theorem SU (b vb:Nat)(x:PIt)(v:PVw)(h:Sat ω w (itH b vb x v*F))(hr:x.regs.length=8)(ho:v.ok)(hn:x.opens.length≤100)(hl:x.out.length≤100)(ka kb kc n:Nat)(h1:ka<8)(h2:kb<8)(h3:kc≤40):
  Calls prog 183 #[.pointer b,.agg #[ι 17,ka,kb,kc,υ n]] w (Rets ω F (.int .i64 (((x.begin v 17 x.at_).1:Int))) (itH b vb ((x.begin v 17 x.at_).2.1) ((x.begin v 17 x.at_).2.2))):=by
 obtain⟨m,hm⟩:∃m,kc%8=m:=⟨_,rfl⟩;have hC:∀o,IpC (w.alloc o) b x ka kb m:=fun o=>BC (h.junk o) hr h1 h2 (by omega)
 have ca:=fun o=>(hC o).ca
 have cb:=fun o=>(hC o).cb
 have cc:=fun o=>(hC o).cc
 have fz:=fun o=>(hC o).fz
 have lb1:b<w.heap.size+1:=by have:=(hC (.cells #[] 0)).lt;simpa using this
 have HX:Hid (∀o q,Sat ω ((w.alloc o).drewN q) (itH b vb x v*F)):=h_ (fun o q=>(h.junk o).drewN q)
 have ta:Int.tmod (ka:Int) 8=(ka:Int):=by rw[Int.tmod_eq_emod_of_nonneg (by omega)];omega
 have tb:Int.tmod (kb:Int) 8=(kb:Int):=by rw[Int.tmod_eq_emod_of_nonneg (by omega)];omega
 have tc:Int.tmod (kc:Int) 8=(m:Int):=by rw[Int.tmod_eq_emod_of_nonneg (by omega)];omega
 have ga:(ka:Int)<8:=by omega
 have gb:(kb:Int)<8:=by omega
 have gm:(m:Int)<8:=by omega
 have HT:Hid (∀o q,Calls prog 215 #[.pointer b,.agg #[ι 17,ka,kb,kc,υ n]] ((w.alloc o).drewN q) (Rets ω F (.int .i64 ((x.begin v 17 x.at_).1:Int)) (itH b vb (x.begin v 17 x.at_).2.1 (x.begin v 17 x.at_).2.2))):=h_ (fun o q=>NV ω _ F b vb x v ((h.junk o).drewN q) hr ho hn hl (ka:Int) (kb:Int) (kc:Int) (n:Int))
 obtain⟨R,hR⟩:∃R,x.begin v 17 x.at_=R:=⟨_,rfl⟩;rw[hR] at HT ⊢;clear hR ho hn hl;generalize x.regs.getD ka 0=RA at *
 generalize x.regs.getD kb 0=RB at *
 generalize x.regs.getD m 0=RC at *
 clear h hC hr;go_enter func183,ntmps183;go_wp2;go_quiet (fail);go_wp2_with (go_at_call 215;refine(HT.o _ _).mono ?_;rintro e w1 ⟨rfl,hs⟩;have HZ:=h_ hs;clear hs);go_ret;exact⟨rfl,HZ.o⟩
theorem SS (b vb:Nat)(x:PIt)(v:PVw)(h:Sat ω w (itH b vb x v*F))(hr:x.regs.length=8)(ho:v.ok)(hn:x.opens.length≤100)(h0:x.opens≠[])(hall:∀p∈x.opens,p.regs.length=8)(ka kb kc n:Nat)(h1:ka<8)(h2:kb<8)(h3:kc≤40):
  Calls prog 183 #[.pointer b,.agg #[ι 19,ka,kb,kc,υ n]] w (Rets ω F (.int .i64 ((((v.keep.1,x.leave.2,v.keep.2)).1:Int))) (itH b vb (((v.keep.1,x.leave.2,v.keep.2)).2.1) (((v.keep.1,x.leave.2,v.keep.2)).2.2))):=by
 obtain⟨m,hm⟩:∃m,kc%8=m:=⟨_,rfl⟩;have hC:∀o,IpC (w.alloc o) b x ka kb m:=fun o=>BC (h.junk o) hr h1 h2 (by omega)
 have ca:=fun o=>(hC o).ca
 have cb:=fun o=>(hC o).cb
 have cc:=fun o=>(hC o).cc
 have fz:=fun o=>(hC o).fz
 have lb1:b<w.heap.size+1:=by have:=(hC (.cells #[] 0)).lt;simpa using this
 have HX:Hid (∀o q,Sat ω ((w.alloc o).drewN q) (itH b vb x v*F)):=h_ (fun o q=>(h.junk o).drewN q)
 have ta:Int.tmod (ka:Int) 8=(ka:Int):=by rw[Int.tmod_eq_emod_of_nonneg (by omega)];omega
 have tb:Int.tmod (kb:Int) 8=(kb:Int):=by rw[Int.tmod_eq_emod_of_nonneg (by omega)];omega
 have tc:Int.tmod (kc:Int) 8=(m:Int):=by rw[Int.tmod_eq_emod_of_nonneg (by omega)];omega
 have ga:(ka:Int)<8:=by omega
 have gb:(kb:Int)<8:=by omega
 have gm:(m:Int)<8:=by omega
 have HT:Hid (∀o q,Calls prog 215 #[.pointer b,.agg #[ι 19,ka,kb,kc,υ n]] ((w.alloc o).drewN q) (Rets ω F (.int .i64 (((v.keep.1,x.leave.2,v.keep.2)).1:Int)) (itH b vb ((v.keep.1,x.leave.2,v.keep.2)).2.1 ((v.keep.1,x.leave.2,v.keep.2)).2.2))):=h_ (fun o q=>NT ω _ F b vb x v ((h.junk o).drewN q) hr ho hn h0 hall (ka:Int) (kb:Int) (kc:Int) (n:Int))
 obtain⟨R,hR⟩:∃R,(v.keep.1,x.leave.2,v.keep.2)=R:=⟨_,rfl⟩;rw[hR] at HT ⊢;clear hR ho hn h0 hall;generalize x.regs.getD ka 0=RA at *
 generalize x.regs.getD kb 0=RB at *
 generalize x.regs.getD m 0=RC at *
 clear h hC hr;go_enter func183,ntmps183;go_wp2;go_quiet (fail);go_wp2_with (go_at_call 215;refine(HT.o _ _).mono ?_;rintro e w1 ⟨rfl,hs⟩;have HZ:=h_ hs;clear hs);go_ret;exact⟨rfl,HZ.o⟩
theorem ST (b vb:Nat)(x:PIt)(v:PVw)(h:Sat ω w (itH b vb x v*F))(hr:x.regs.length=8)(ho:v.ok)(hn:x.opens.length≤100)(h0:x.opens≠[])(hall:∀p∈x.opens,p.regs.length=8)(mm:Nat)(hmm:(matchP x.code)[x.at_]?=some (mm:Int))(hm9:mm≤1000)(ka kb kc n:Nat)(h1:ka<8)(h2:kb<8)(h3:kc≤40):
  Calls prog 183 #[.pointer b,.agg #[ι 18,ka,kb,kc,υ n]] w (Rets ω F (.int .i64 ((((v.keep.1,({x.leave.2 with next:=mm+1}:PIt),v.keep.2)).1:Int))) (itH b vb (((v.keep.1,({x.leave.2 with next:=mm+1}:PIt),v.keep.2)).2.1) (((v.keep.1,({x.leave.2 with next:=mm+1}:PIt),v.keep.2)).2.2))):=by
 obtain⟨m,hm⟩:∃m,kc%8=m:=⟨_,rfl⟩;have hC:∀o,IpC (w.alloc o) b x ka kb m:=fun o=>BC (h.junk o) hr h1 h2 (by omega)
 have ca:=fun o=>(hC o).ca
 have cb:=fun o=>(hC o).cb
 have cc:=fun o=>(hC o).cc
 have fz:=fun o=>(hC o).fz
 have lb1:b<w.heap.size+1:=by have:=(hC (.cells #[] 0)).lt;simpa using this
 have HX:Hid (∀o q,Sat ω ((w.alloc o).drewN q) (itH b vb x v*F)):=h_ (fun o q=>(h.junk o).drewN q)
 have ta:Int.tmod (ka:Int) 8=(ka:Int):=by rw[Int.tmod_eq_emod_of_nonneg (by omega)];omega
 have tb:Int.tmod (kb:Int) 8=(kb:Int):=by rw[Int.tmod_eq_emod_of_nonneg (by omega)];omega
 have tc:Int.tmod (kc:Int) 8=(m:Int):=by rw[Int.tmod_eq_emod_of_nonneg (by omega)];omega
 have ga:(ka:Int)<8:=by omega
 have gb:(kb:Int)<8:=by omega
 have gm:(m:Int)<8:=by omega
 have HT:Hid (∀o q,Calls prog 215 #[.pointer b,.agg #[ι 18,ka,kb,kc,υ n]] ((w.alloc o).drewN q) (Rets ω F (.int .i64 (((v.keep.1,({x.leave.2 with next:=mm+1}:PIt),v.keep.2)).1:Int)) (itH b vb ((v.keep.1,({x.leave.2 with next:=mm+1}:PIt),v.keep.2)).2.1 ((v.keep.1,({x.leave.2 with next:=mm+1}:PIt),v.keep.2)).2.2))):=h_ (fun o q=>NU ω _ F b vb x v ((h.junk o).drewN q) hr ho hn h0 hall mm hmm hm9 (ka:Int) (kb:Int) (kc:Int) (n:Int))
 obtain⟨R,hR⟩:∃R,(v.keep.1,({x.leave.2 with next:=mm+1}:PIt),v.keep.2)=R:=⟨_,rfl⟩
 rw[hR] at HT ⊢;clear hR ho hn h0 hall hmm;generalize x.regs.getD ka 0=RA at *
 generalize x.regs.getD kb 0=RB at *
 generalize x.regs.getD m 0=RC at *
 clear h hC hr;go_enter func183,ntmps183;go_wp2;go_quiet (fail);go_wp2_with (go_at_call 215;refine(HT.o _ _).mono ?_;rintro e w1 ⟨rfl,hs⟩;have HZ:=h_ hs;clear hs);go_ret;exact⟨rfl,HZ.o⟩
theorem SR (b vb:Nat)(x:PIt)(v:PVw)(dep:Nat→Nat)(R:Nat×PIt×PVw)(hI:RtInv ω F b vb dep R w x v)(ka kb kc n:Nat)(h1:ka<8)(h2:kb<8)(h3:kc≤40):
  Calls prog 183 #[.pointer b,.agg #[ι 20,ka,kb,kc,υ n]] w (Rets ω F (.int .i64 (((R).1:Int))) (itH b vb ((R).2.1) ((R).2.2))):=by
 have h:=hI.sat;have hr:=hI.val.regs;obtain⟨m,hm⟩:∃m,kc%8=m:=⟨_,rfl⟩;have hC:∀o,IpC (w.alloc o) b x ka kb m:=fun o=>BC (h.junk o) hr h1 h2 (by omega)
 have ca:=fun o=>(hC o).ca
 have cb:=fun o=>(hC o).cb
 have cc:=fun o=>(hC o).cc
 have fz:=fun o=>(hC o).fz
 have lb1:b<w.heap.size+1:=by have:=(hC (.cells #[] 0)).lt;simpa using this
 have HX:Hid (∀o q,Sat ω ((w.alloc o).drewN q) (itH b vb x v*F)):=h_ (fun o q=>(h.junk o).drewN q)
 have ta:Int.tmod (ka:Int) 8=(ka:Int):=by rw[Int.tmod_eq_emod_of_nonneg (by omega)];omega
 have tb:Int.tmod (kb:Int) 8=(kb:Int):=by rw[Int.tmod_eq_emod_of_nonneg (by omega)];omega
 have tc:Int.tmod (kc:Int) 8=(m:Int):=by rw[Int.tmod_eq_emod_of_nonneg (by omega)];omega
 have ga:(ka:Int)<8:=by omega
 have gb:(kb:Int)<8:=by omega
 have gm:(m:Int)<8:=by omega
 have HT:Hid (∀o q,Calls prog 215 #[.pointer b,.agg #[ι 20,ka,kb,kc,υ n]] ((w.alloc o).drewN q) (Rets ω F (.int .i64 ((R).1:Int)) (itH b vb (R).2.1 (R).2.2))):=h_ (fun o q=>NS ω _ F b vb x v dep R ⟨(h.junk o).drewN q,hI.val,hI.vf,hI.ways,hI.live,hI.len,hI.at_,hI.run⟩ (ka:Int) (kb:Int) (kc:Int) (n:Int))
 clear hI;generalize x.regs.getD ka 0=RA at *
 generalize x.regs.getD kb 0=RB at *
 generalize x.regs.getD m 0=RC at *
 clear h hC hr;go_enter func183,ntmps183;go_wp2;go_quiet (fail);go_wp2_with (go_at_call 215;refine(HT.o _ _).mono ?_;rintro e w1 ⟨rfl,hs⟩;have HZ:=h_ hs;clear hs);go_ret;exact⟨rfl,HZ.o⟩
theorem SW (b vb:Nat)(x:PIt)(v:PVw)(h:Sat ω w (itH b vb x v*F))(hr:x.regs.length=8)(ka kb kc n:Nat)(h1:ka<8)(h2:kb<8)(h3:kc≤40):
  Calls prog 183 #[.pointer b,.agg #[ι 12,ka,kb,kc,υ n]] w (Rets ω F (.int .i64 (0)) (itH b vb ({x with next:=kc}) (v))):=by
 obtain⟨m,hm⟩:∃m,kc%8=m:=⟨_,rfl⟩;have hC:∀o,IpC (w.alloc o) b x ka kb m:=fun o=>BC (h.junk o) hr h1 h2 (by omega)
 have ca:=fun o=>(hC o).ca
 have cb:=fun o=>(hC o).cb
 have cc:=fun o=>(hC o).cc
 have fz:=fun o=>(hC o).fz
 have lb1:b<w.heap.size+1:=by have:=(hC (.cells #[] 0)).lt;simpa using this
 have HX:Hid (∀o q,Sat ω ((w.alloc o).drewN q) (itH b vb x v*F)):=h_ (fun o q=>(h.junk o).drewN q)
 have ta:Int.tmod (ka:Int) 8=(ka:Int):=by rw[Int.tmod_eq_emod_of_nonneg (by omega)];omega
 have tb:Int.tmod (kb:Int) 8=(kb:Int):=by rw[Int.tmod_eq_emod_of_nonneg (by omega)];omega
 have tc:Int.tmod (kc:Int) 8=(m:Int):=by rw[Int.tmod_eq_emod_of_nonneg (by omega)];omega
 have ga:(ka:Int)<8:=by omega
 have gb:(kb:Int)<8:=by omega
 have gm:(m:Int)<8:=by omega
 have HS:Hid (∀w1,Sat ω w1 (itH b vb x v*F)→Sat ω (w1.setCell (κ b 16) kc) (itH b vb {x with next:=kc} v*F)):=h_ (fun w1 hw=>Az hw 16 _ (fun D=>BT x D hr kc) rfl rfl rfl)
 have c16:=fun o=>(Cb (h.junk o) hr).next
 generalize x.regs.getD ka 0=RA at *
 generalize x.regs.getD kb 0=RB at *
 generalize x.regs.getD m 0=RC at *
 clear h hC hr;go_enter func183,ntmps183;go_wp2;go_quiet (fail);go_wp2;go_ret;exact⟨rfl,HS.o _ (HX.o _ _)⟩
theorem SV (b vb:Nat)(x:PIt)(v:PVw)(h:Sat ω w (itH b vb x v*F))(hr:x.regs.length=8)(ka kb kc n:Nat)(h1:ka<8)(h2:kb<8)(h3:kc≤40):
  Calls prog 183 #[.pointer b,.agg #[ι 13,ka,kb,kc,υ n]] w (Rets ω F (.int .i64 (0)) (itH b vb (if x.regs.getD ka 0=0 then {x with next:=kc} else x) (v))):=by
 obtain⟨m,hm⟩:∃m,kc%8=m:=⟨_,rfl⟩;have hC:∀o,IpC (w.alloc o) b x ka kb m:=fun o=>BC (h.junk o) hr h1 h2 (by omega)
 have ca:=fun o=>(hC o).ca
 have cb:=fun o=>(hC o).cb
 have cc:=fun o=>(hC o).cc
 have fz:=fun o=>(hC o).fz
 have lb1:b<w.heap.size+1:=by have:=(hC (.cells #[] 0)).lt;simpa using this
 have HX:Hid (∀o q,Sat ω ((w.alloc o).drewN q) (itH b vb x v*F)):=h_ (fun o q=>(h.junk o).drewN q)
 have ta:Int.tmod (ka:Int) 8=(ka:Int):=by rw[Int.tmod_eq_emod_of_nonneg (by omega)];omega
 have tb:Int.tmod (kb:Int) 8=(kb:Int):=by rw[Int.tmod_eq_emod_of_nonneg (by omega)];omega
 have tc:Int.tmod (kc:Int) 8=(m:Int):=by rw[Int.tmod_eq_emod_of_nonneg (by omega)];omega
 have ga:(ka:Int)<8:=by omega
 have gb:(kb:Int)<8:=by omega
 have gm:(m:Int)<8:=by omega
 have HS:Hid (∀w1,Sat ω w1 (itH b vb x v*F)→Sat ω (w1.setCell (κ b 16) kc) (itH b vb {x with next:=kc} v*F)):=h_ (fun w1 hw=>Az hw 16 _ (fun D=>BT x D hr kc) rfl rfl rfl)
 have c16:=fun o=>(Cb (h.junk o) hr).next
 generalize x.regs.getD ka 0=RA at *
 generalize x.regs.getD kb 0=RB at *
 generalize x.regs.getD m 0=RC at *
 clear h hC hr;by_cases e0:RA=0
 ·subst e0;rw[if_pos rfl];go_enter func183,ntmps183;go_wp2;go_quiet (fail);go_wp2;go_ret;exact⟨rfl,HS.o _ (HX.o _ _)⟩
 ·rw[if_neg e0];have d0:((RA:Int)==0)=false:=by simpa using e0
  go_enter func183,ntmps183;go_wp2;go_quiet (fail);go_wp2;go_ret;exact⟨rfl,HX.o _ _⟩
theorem UE (b vb:Nat)(x:PIt)(v:PVw)(h:Sat ω w (itH b vb x v*F))(hr:x.regs.length=8)(ka kb kc n:Nat)(h1:ka<8)(h2:kb<8)(h3:kc≤40):
  Calls prog 183 #[.pointer b,.agg #[ι 3,ka,kb,kc,υ n]] w (Rets ω F (.int .i64 (0)) (itH b vb ({x with regs:=x.regs.set ka ((x.regs.getD kb 0+x.regs.getD (kc%8) 0)%18446744073709551616)}) (v))):=by
 obtain⟨m,hm⟩:∃m,kc%8=m:=⟨_,rfl⟩;have hC:∀o,IpC (w.alloc o) b x ka kb m:=fun o=>BC (h.junk o) hr h1 h2 (by omega)
 have ca:=fun o=>(hC o).ca
 have cb:=fun o=>(hC o).cb
 have cc:=fun o=>(hC o).cc
 have fz:=fun o=>(hC o).fz
 have lb1:b<w.heap.size+1:=by have:=(hC (.cells #[] 0)).lt;simpa using this
 have HX:Hid (∀o q,Sat ω ((w.alloc o).drewN q) (itH b vb x v*F)):=h_ (fun o q=>(h.junk o).drewN q)
 have ta:Int.tmod (ka:Int) 8=(ka:Int):=by rw[Int.tmod_eq_emod_of_nonneg (by omega)];omega
 have tb:Int.tmod (kb:Int) 8=(kb:Int):=by rw[Int.tmod_eq_emod_of_nonneg (by omega)];omega
 have tc:Int.tmod (kc:Int) 8=(m:Int):=by rw[Int.tmod_eq_emod_of_nonneg (by omega)];omega
 have ga:(ka:Int)<8:=by omega
 have gb:(kb:Int)<8:=by omega
 have gm:(m:Int)<8:=by omega
 rw[hm];have HS:Hid (∀w1 (r:Nat),Sat ω w1 (itH b vb x v*F)→Sat ω (w1.setCell (κ b (6+ka)) (.int .u64 r)) (itH b vb {x with regs:=x.regs.set ka r} v*F)):=h_ (fun w1 r hw=>Lk hw hr ka h1 r)
 generalize x.regs.getD ka 0=RA at *
 generalize x.regs.getD kb 0=RB at *
 generalize x.regs.getD m 0=RC at *
 clear h hC hr;have hw:IntKind.u64.wrap ((RB:Int)+(RC:Int))=(((RB+RC)%18446744073709551616:Nat):Int):=by rw[IntKind.wrap_u64];omega
 go_enter func183,ntmps183;go_wp2;go_quiet (fail);go_wp2;go_ret;refine⟨rfl,?_⟩;first
  |exact HS.o _ _ (HX.o _ _)
  |((have h9:=HS.o _ ((RB+RC)%18446744073709551616) (HX.o _ _));rw[←hw] at h9;exact h9)
end
end Go.Proofs.YtfodmgaliclhfaaGreatDoor
