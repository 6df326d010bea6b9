/- Lemmas; no conditions. -/
import Derived.Test.YtfodmgaliclhfaaGreatDoorGOkAt
import Derived.Test.YtfodmgaliclhfaaGreatDoorGBehind
import Derived.Test.YtfodmgaliclhfaaGreatDoorGAtTold
namespace Go.Proofs.YtfodmgaliclhfaaGreatDoor
set_option linter.unusedVariables false
set_option linter.unusedSimpArgs false
set_option maxRecDepth 100000
set_option maxHeartbeats 8000000
open Go.RowKit
section
structure JobFine (p:List PIns):Prop where
 ok:okP p=true
 code:∃dep,CodeFine dep p
structure ThBase (K:Nat) (t:PTh):Prop where
 me:t.me≤1000
 jobs:t.jobs.length≤6
 prog:∀p∈t.jobs,JobFine p
 job:t.job≤t.jobs.length
 by_:t.by_≤1000
 tries:t.tries≤K
 confl:t.conflicts≤K
 past:t.past.length≤K
 res:t.results.length≤K
 pz:0≤t.pauses∧t.pauses≤8
 now:∀x,t.now=some x→AtFine x
structure ThFine (K:Nat) (t:PTh):Prop extends ThBase K t where
 st:t.state=1∨t.state=2∨t.state=3∨t.state=4∨t.state=6
 jlt:t.state≠6→t.job<t.jobs.length
 some_:t.state=1→∃x,t.now=some x
 pp:t.state=3→1≤t.pauses
 born:t.born≤K
section
variable {s : PSt} {K L : Nat} {t : PTh}
theorem ThBase.up (h:ThBase K t)(hk:K≤L):ThBase L t:=⟨h.me,h.jobs,h.prog,h.job,h.by_,Nat.le_trans h.tries hk,Nat.le_trans h.confl hk,Nat.le_trans h.past hk,Nat.le_trans h.res hk,h.pz,h.now⟩
theorem ThFine.up (h:ThFine K t)(hk:K≤L):ThFine L t:=⟨h.toThBase.up hk,h.st,h.jlt,h.some_,h.pp,Nat.le_trans h.born hk⟩
theorem new_fine {p:List PIns}(hp:JobFine p)(me:Nat)(hme:me≤1000)(s:PSt):AtFine (PAt.new me s p):=by
 obtain⟨dep,hc⟩:=hp.code;have hlog:(PLv.new s.writes).fine:=⟨by simp[PLv.new],by simp[PLv.new],by simp only[PLv.new];omega,fun r hr=>by
  simp only[PLv.new,List.mem_singleton] at hr;subst hr;exact wFine.nil⟩
 have hvw:(PVw.new s.words s.writes).fine:=by
  refine⟨hlog,by simp[PVw.new];omega,?_,by simp[PVw.new],fun k y hk=>?_,by simp[PVw.new]⟩
  ·simp only[PVw.new,List.length_nil]
   symm
   rw[List.countP_eq_zero];intro a ha;rw[(List.mem_replicate.1 ha).2];simp
  ·simp only[PVw.new] at hk;rw[gD,List.getElem?_replicate] at hk;split at hk<;>simp at hk
 refine⟨⟨⟨dep,⟨⟨by simp[PAt.new,PIt.new],?_,by simp[PAt.new,PIt.new],by simp[PAt.new,PIt.new],by simp[PAt.new,PIt.new]⟩,hc,hvw,Nat.zero_le _,by simp only[PAt.new,PIt.new];omega,fun _=>⟨rfl,hc.zero.symm⟩⟩⟩,.inl rfl,by simp[PAt.new],by simp[PAt.new],(by intro c h9;cases h9),by simp[PAt.new],hme⟩,by simp[PAt.new],by simp[PAt.new],by simp[PAt.new],by simp[PAt.new],(by intro _ c h9;cases h9)⟩
 intro r hr;simp only[PAt.new,PIt.new] at hr;rw[(List.mem_replicate.1 hr).2];exact U64.zero
theorem ThBase.again (h:ThBase K t)(s:PSt):ThFine K (t.again s):=by
 unfold PTh.again;simp only;split
 ·exact⟨⟨h.me,h.jobs,h.prog,h.job,h.by_,h.tries,h.confl,h.past,h.res,h.pz,by intro x hx;cases hx⟩,by simp,by simp,by simp,by simp,Nat.zero_le _⟩
 ·rename_i hj;have hlt:t.job<t.jobs.length:=Nat.lt_of_le_of_ne h.job hj;have hp:JobFine (t.jobs.getD t.job []):=h.prog _ (by rw[gD,List.getElem?_eq_getElem hlt];exact List.getElem_mem _)
  exact⟨⟨h.me,h.jobs,h.prog,h.job,h.by_,h.tries,h.confl,h.past,h.res,h.pz,by intro x hx;cases hx;exact new_fine hp _ h.me s⟩,by simp,fun _=>hlt,fun _=>⟨_,rfl⟩,by simp,Nat.zero_le _⟩
theorem mostPause_le:∀n,1≤mostPause n∧mostPause n≤8
 |0=>by simp[mostPause]
 |n+1=>by
  have:=mostPause_le n
  simp only[mostPause];omega
theorem ThBase.pause (h:ThBase K t)(hlt:t.job<t.jobs.length)(hb:t.born≤K)(s:PSt)(d:Nat):ThFine K (t.pause s d):=by
 have hm:=mostPause_le (min t.conflicts 8);have hd:d%(mostPause (min t.conflicts 8)+1)<mostPause (min t.conflicts 8)+1:=Nat.mod_lt _ (by omega)
 unfold PTh.pause;simp only;split
 ·exact ThBase.again (t:={ t with pauses:=_,state:=3 }) ⟨h.me,h.jobs,h.prog,h.job,h.by_,h.tries,h.confl,h.past,h.res,by simp only;omega,h.now⟩ s
 ·exact⟨⟨h.me,h.jobs,h.prog,h.job,h.by_,h.tries,h.confl,h.past,h.res,by simp only;omega,h.now⟩,by simp,fun _=>hlt,by simp,fun _=>by simp only;omega,hb⟩
theorem ThBase.following (h:ThBase K t)(hlt:t.job<t.jobs.length)(s:PSt):ThFine K (t.following s):=by
 unfold PTh.following;exact ThBase.again (t:={ t with job:=t.job+1,tries:=0,conflicts:=0 }) ⟨h.me,h.jobs,h.prog,hlt,h.by_,Nat.zero_le _,Nat.zero_le _,h.past,h.res,h.pz,h.now⟩ s
theorem ThBase.ended (h:ThBase K t)(hlt:t.job<t.jobs.length)(hb:t.born≤K+1)(hs:s.threads≤1000)(x:PAt)(d p:Nat):ThFine (K+1) (t.ended s x d p):=by
 have h1:ThBase (K+1) { t with past:=t.past++[x.toldOf t p],tries:=t.tries+1 }:=⟨h.me,h.jobs,h.prog,h.job,h.by_,by have:=h.tries;simp only;omega,by have:=h.confl;simp only;omega,by have:=h.past;simp;omega,by have:=h.res;simp only;omega,h.pz,h.now⟩
 unfold PTh.ended;simp only;split
 ·have h2:ThBase (K+1) { t with past:=t.past++[x.toldOf t p],tries:=t.tries+1,conflicts:=t.conflicts+1 }:=⟨h1.me,h1.jobs,h1.prog,h1.job,h1.by_,h1.tries,by have:=h.confl;simp only;omega,h1.past,h1.res,h1.pz,h1.now⟩
  split
  ·exact⟨⟨h2.me,h2.jobs,h2.prog,h2.job,by simp only;omega,h2.tries,h2.confl,h2.past,h2.res,h2.pz,h2.now⟩,by simp,fun _=>hlt,by simp,by simp,hb⟩
  ·exact h2.pause hlt hb s d
 ·split
  ·split
   ·exact h1.again s
   ·exact⟨⟨h1.me,h1.jobs,h1.prog,h1.job,h1.by_,h1.tries,h1.confl,h1.past,h1.res,h1.pz,h1.now⟩,by simp,fun _=>hlt,by simp,by simp,hb⟩
  ·exact ThBase.following (t:={ t with past:=t.past++[x.toldOf t p],tries:=t.tries+1,results:=t.results++[(⟨x.finOf,x.errOf,x.slate,x.stamp⟩:PRe)] }) ⟨h1.me,h1.jobs,h1.prog,h1.job,h1.by_,h1.tries,h1.confl,h1.past,by have:=h.res;simp;omega,h1.pz,h1.now⟩ hlt s
theorem ThFine.yield_ (h:ThFine K t)(h2:t.state=2)(s:PSt)(a:PAns)(d:Nat):ThFine K (t.yield_ s a d):=by
 unfold PTh.yield_;split
 ·exact⟨⟨h.me,h.jobs,h.prog,h.job,h.by_,h.tries,h.confl,h.past,h.res,h.pz,h.now⟩,h.st,h.jlt,h.some_,h.pp,h.born⟩
 ·exact h.toThBase.pause (h.jlt (by omega)) h.born s d
theorem ThFine.pauseOne (h:ThFine K t)(s:PSt):ThFine K (t.pauseOne s):=by
 unfold PTh.pauseOne;split
 ·exact h
 ·rename_i h3;have h3:t.state=3:=by simpa using h3
  have h4:=h.pp h3;have h5:=h.pz;have h6:ThBase K { t with pauses:=t.pauses-1 }:=⟨h.me,h.jobs,h.prog,h.job,h.by_,h.tries,h.confl,h.past,h.res,by simp only;omega,h.now⟩
  simp only;split
  ·exact h6.again s
  ·rename_i h7;exact⟨h6,h.st,h.jlt,h.some_,fun _=>by simp only;omega,h.born⟩
theorem ThFine.wake (h:ThFine K t)(s:PSt)(k v:Nat):ThFine K (t.wake s k v):=by
 unfold PTh.wake;split
 ·exact h
 ·split
  ·split
   ·exact h.toThBase.again s
   ·split
    ·exact⟨⟨h.me,h.jobs,h.prog,h.job,h.by_,h.tries,h.confl,h.past,h.res,h.pz,h.now⟩,h.st,h.jlt,h.some_,h.pp,h.born⟩
    ·exact h
  ·exact h
theorem ThFine.next (h:ThFine K t)(h2:t.next.2=true):OpFine t.next.1:=by
 rcases h.st with k|k|k|k|k
 ·obtain⟨x,hx⟩:=h.some_ k;have e:t.next=x.next:=by unfold PTh.next;rw[k,hx];rfl
  rw[e] at h2 ⊢;exact(h.now x hx).next h2
 ·have e:t.next=(POp.at' 8 t.by_,true):=by unfold PTh.next;rw[k];rfl
  rw[e];exact⟨Nat.le_trans h.by_ (by omega),by simp[POp.at'],by simp[POp.at'],by simp[POp.at']⟩
 all_goals
  have e:t.next=(POp.zero,false):=by unfold PTh.next;rw[k];rfl
  rw[e] at h2;cases h2
theorem ThFine.tell (h:ThFine K t)(hs:StFine s)(ht:s.threads≤1000){m:PMm}(hm:m.good)(h2:t.next.2=true)(d p:Nat)(hp:p≤K+1):ThFine (K+1) (t.tell s (doM m t.next.1).1 d p):=by
 rcases h.st with k|k|k|k|k
 ·obtain⟨x,hx⟩:=h.some_ k;have e:t.next=x.next:=by unfold PTh.next;rw[k,hx];rfl
  rw[e] at h2 ⊢;have hy:=(h.now x hx).tell hs hm h2;generalize (doM m x.next.1).1=a at hy ⊢;have eT:t.tell s a d p=(if(x.tell s a).finOf≠0 then PTh.ended { t with now:=some (x.tell s a),born:=if((x.tell s a).begun&&!x.begun)=true then p else t.born } s (x.tell s a) d p else { t with now:=some (x.tell s a),born:=if((x.tell s a).begun&&!x.begun)=true then p else t.born }):=by
   unfold PTh.tell;simp only[k,hx]
  rw[eT];generalize x.tell s a=y at hy ⊢;have hbn:(if(y.begun&&!x.begun)=true then p else t.born)≤K+1:=by
   have:=h.born
   split<;>omega
  have hb:ThBase K { t with now:=some y,born:=if(y.begun&&!x.begun)=true then p else t.born }:=⟨h.me,h.jobs,h.prog,h.job,h.by_,h.tries,h.confl,h.past,h.res,h.pz,by intro z hz;cases hz;exact hy⟩
  split
  ·exact hb.ended (h.jlt (by omega)) hbn ht y d p
  ·exact⟨hb.up (Nat.le_succ K),by simp[k],fun _=>h.jlt (by omega),fun _=>⟨y,rfl⟩,by simp only;omega,hbn⟩
 ·have e:t.tell s (doM m t.next.1).1 d p=t.yield_ s (doM m t.next.1).1 d:=by unfold PTh.tell;rw[k];rfl
  rw[e];exact(h.yield_ k s _ d).up (Nat.le_succ K)
 all_goals
  have e:t.next=(POp.zero,false):=by unfold PTh.next;rw[k];rfl
  rw[e] at h2;cases h2
end
theorem held_fine (s:PSt):StFine s.held∧s.held.threads≤4:=⟨⟨by simp only[PSt.held];omega,by simp only[PSt.held];omega⟩,by simp only[PSt.held];omega⟩
structure McFine (M:PMc):Prop where
 set:∃s:PSt,M.s=s.held
 mem:M.mem.good
 thr:∀i t,M.thr[i]?=some t→ThFine M.picks t∧t.me=i
 len:M.thr.length=M.s.threads
section
variable {M : PMc}
theorem pauseOne_me (t:PTh)(s:PSt):(t.pauseOne s).me=t.me:=by
 unfold PTh.pauseOne PTh.again;split
 ·rfl
 ·simp only;split
  ·split<;>rfl
  ·rfl
theorem again_me (t:PTh)(s:PSt):(t.again s).me=t.me:=by
 unfold PTh.again;simp only;split<;>rfl
theorem pause_me (t:PTh)(s:PSt)(d:Nat):(t.pause s d).me=t.me:=by
 unfold PTh.pause;simp only;split
 ·rw[again_me]
 ·rfl
theorem wake_me (t:PTh)(s:PSt)(k v:Nat):(t.wake s k v).me=t.me:=by
 unfold PTh.wake;split
 ·rfl
 ·split
  ·split
   ·rw[again_me]
   ·split<;>rfl
  ·rfl
theorem ended_me (t:PTh)(s:PSt)(x:PAt)(d p:Nat):(t.ended s x d p).me=t.me:=by
 unfold PTh.ended;simp only;split
 ·split
  ·rfl
  ·rw[pause_me]
 ·split
  ·split
   ·rw[again_me]
   ·rfl
  ·unfold PTh.following;rw[again_me]
theorem tell_me (t:PTh)(s:PSt)(a:PAns)(d p:Nat):(t.tell s a d p).me=t.me:=by
 unfold PTh.tell;split
 ·split
  ·rfl
  ·simp only;split
   ·rw[ended_me]
   ·rfl
 ·unfold PTh.yield_;split
  ·rfl
  ·rw[pause_me]
 ·rfl
theorem McFine.pick (h:McFine M)(i d:Nat):McFine (M.pick i d):=by
 obtain⟨s0,hs0⟩:=h.set;obtain⟨f1,f2⟩:=held_fine s0;rw[←hs0] at f1 f2;unfold PMc.pick;cases ht:M.thr[i]? with
 |none=>exact h
 |some t =>
  have hlt:i<M.thr.length:=(List.getElem?_eq_some_iff.1 ht).1;obtain⟨hth,hme⟩:=h.thr i t ht;have put:∀u,ThFine (M.picks+1) u→u.me=i→∀k v,(M.thr.set i u)[k]?=some v→ThFine (M.picks+1) v∧v.me=k:=fun u hu hum k v hv=>by
   by_cases e:k=i
   ·subst e;rw[List.getElem?_set_self hlt] at hv;obtain rfl:=Option.some.inj hv;exact⟨hu,hum⟩
   ·rw[List.getElem?_set_ne (Ne.symm e)] at hv;exact⟨(h.thr k v hv).1.up (by omega),(h.thr k v hv).2⟩
  simp only;by_cases hd:t.next.2=false
  ·rw[if_pos hd];exact⟨⟨s0,hs0⟩,h.mem,put _ ((hth.pauseOne M.s).up (by omega)) (by rw[pauseOne_me];exact hme),by simpa using h.len⟩
  rw[if_neg hd];have hd':t.next.2=true:=by simpa using hd
  have hop:=hth.next hd';have hmem:=doC_good h.mem hop.word;have hte:ThFine (M.picks+1) (t.tell M.s (doC M.mem t.next.1).1 d (M.picks+1)):=hth.tell f1 (by omega) h.mem hd' d _ (Nat.le_refl _)
  have hput:=put _ hte (by rw[tell_me];exact hme)
  split
  ·exact⟨⟨s0,hs0⟩,hmem,hput,by simpa using h.len⟩
  ·refine⟨⟨s0,hs0⟩,hmem,fun k v hv=>?_,by simpa using h.len⟩
   simp only[List.getElem?_mapIdx,Option.map_eq_some_iff] at hv;obtain⟨o,ho,rfl⟩:=hv;obtain⟨q1,q2⟩:=hput k o ho;split
   ·exact⟨q1,q2⟩
   ·exact⟨q1.wake _ _ _,by rw[wake_me];exact q2⟩
theorem McFine.new (s:PSt)(jobs:List (List (List PIns)))(hj:∀l∈jobs,∀p∈l,JobFine p):McFine (PMc.new s jobs):=by
 have hth:∀i,i≤1000→∀s' l,(∀p∈l,JobFine p)→ThFine 0 (PTh.new i s' l)∧(PTh.new i s' l).me=i:=fun i hi s' l hl=>by
  have h0:ThBase 0 { me:=i,jobs:=l.take 6,job:=0,state:=0,tries:=0,conflicts:=0,now:=none,born:=0,alarmed:=false,past:=[],results:=[],by_:=0,since:=0,yielding:=false,pauses:=0 } :=
   ⟨hi,by simp only[List.length_take];omega,fun p hp=>hl p (List.mem_of_mem_take hp),Nat.zero_le _,Nat.zero_le _,Nat.le_refl _,Nat.le_refl _,Nat.le_refl _,Nat.le_refl _,by simp,(by intro x hx;cases hx)⟩
  exact⟨h0.again s',again_me _ s'⟩
 refine⟨⟨_,rfl⟩,⟨?_,?_,?_,?_,?_⟩,fun i t ht=>?_,by simp[PMc.new]⟩
 ·simp[PMc.new,freshW];omega
 ·simp[PMc.new,PSt.held];omega
 ·simp[PMc.new,PSt.held];omega
 ·intro v hv;simp only[PMc.new,freshW] at hv;rcases List.mem_or_eq_of_mem_set hv with h1|h1
  ·rw[(List.mem_replicate.1 h1).2];exact U64.zero
  ·rw[h1];unfold U64;omega
 ·simp only[PMc.new,PSt.held];omega
 ·simp only[PMc.new,List.getElem?_map,Option.map_eq_some_iff] at ht;obtain⟨k,hk,rfl⟩:=ht;obtain⟨h1,h2⟩:=List.getElem?_eq_some_iff.1 hk;have hki:k=i:=by simpa using h2.symm
  subst hki;simp only[List.length_range,PSt.held] at h1;refine hth k (by omega) _ _ fun p hp=>?_
  rw[gD] at hp;cases he:(jobs.take 4)[k]? with
  |none=>rw[he] at hp;cases hp
  |some l =>
   rw[he] at hp;exact hj l (List.mem_of_mem_take (List.mem_of_getElem? he)) p hp
end
end
theorem AtFine.well {x:PAt}(h:AtFine x):AtWell x :=
 ⟨h.st,fun k=>by obtain⟨f,hf,_⟩:=h.s3 k;exact⟨f,hf⟩,fun k=>by obtain⟨e,he,h1⟩:=h.s4 k;exact⟨e,he,h1.ok,h1.len,Nat.le_trans h1.at_ h1.len⟩,fun k=>by obtain⟨c,hc⟩:=h.s6 k;exact⟨c,hc,(h.co c hc).set⟩,h.nc,h.stamp⟩
theorem PMm.good.fits {m:PMm}(h:m.good):m.fits:=⟨h.words,h.locks,h.since⟩
theorem ItVal.items {x:PIt}(h:ItVal x):∀i∈x.out,i.ok:=fun i hi=>by
 have:=h.oks i hi
 cases i with
 |num n=>simp only[U64] at this;simp only[Itm.ok];omega
 |truth b=>trivial
 |nothing=>trivial
theorem AtFine.run {x:PAt}(h:AtFine x):x.v.ok∧x.run.regs.length=8∧x.run.out.length≤1000∧∀i∈x.run.out,i.ok:=by
 obtain⟨dep,hi⟩:=h.it;exact⟨hi.vf.ok,hi.regs,by have:=hi.out;omega,hi.toItVal.items⟩
structure AtTellOk (s:PSt) (x:PAt) (a:PAns):Prop where
 fine:AtFine x
 next:AtFine (x.tell s a)
 word:x.state=3→∀f,x.inner=.fetch f→U64 (f.tell a).word
theorem at_tell (ω w:World)(F:HP)(b:Nat)(s:PSt)(x:PAt)(h:Sat ω w (atH b s x*F))(hs:s.fit)(a:PAns)(ho:AtTellOk s x a):
  Calls Tryz.prog 62 #[.pointer (some ⟨b,0,none⟩),ansA a] w (Rets ω F (.tuple #[]) (atH b s (x.tell s a))):=by
 obtain⟨aw,⟨av,ah,ao⟩,ad,ae⟩:=a;obtain⟨hf,hn,hw⟩:=ho;have hst:=hf.st;show Calls _ _ #[.pointer (some ⟨b,0,none⟩),.agg #[.int .u64 aw,.int .u64 av,.bool ah,.int .i64 ao,.bool ad,.int .i64 ae]] w _
 by_cases k8:x.state=8
 ·have e:x.tell s ⟨aw,⟨av,ah,ao⟩,ad,ae⟩=x:=by unfold PAt.tell;rw[if_pos k8]
  rw[e];exact at_tell8 ω w F b s x h k8 aw av ao ae ah ad
 by_cases he:ae≠0
 ·rw[at_tell_errW k8 he];exact at_tellErr ω w F b s x h x.state rfl k8 aw av ao ae ah ad he
 obtain rfl:ae=0:=by omega
 have hn':∀c,(x.tell s ⟨aw,⟨av,ah,ao⟩,ad,0⟩).inner=.commit c→c.now≤4611686018427387904:=fun c hc=>by
  have:=(hn.co c hc).now
  omega
 obtain⟨dep,hit⟩:=hf.it;rcases(by omega:x.state=0∨x.state=1∨x.state=2∨x.state=3∨(x.state=4∨x.state=5)∨x.state=6∨x.state=7) with k|k|k|k|k|k|k
 ·rw[at_tell_eqW k (by omega) rfl]
  exact at_tell0 ω w F b s x h k aw av ao ah ad
 ·rw[at_tell_eqW k (by omega) rfl]
  exact at_tell1 ω w F b s x h k aw av ao ah ad
 ·rw[at_tell_eqW k (by omega) rfl]
  exact at_tell2 ω w F b s x h k aw av ao ah ad dep hit hf.fin hf.reads hs (hf.nc (by omega))
 ·obtain⟨f,hi,hff⟩:=hf.s3 k;have e:x.tell s ⟨aw,⟨av,ah,ao⟩,ad,0⟩=PAt.told { x with inner:=.fetch (f.tell ⟨aw,⟨av,ah,ao⟩,ad,0⟩) } s:=by
   rw[at_tell_eqW k (by omega) rfl,hi];rfl
  rw[e] at hn' ⊢;exact at_tellF ω w F b s x h 3 k rfl aw av ao ah ad f hi dep hit hf.fin hf.reads hs (hw k f hi) hn'
 ·obtain⟨f,hi,hff⟩:=hf.s4 k;have e:x.tell s ⟨aw,⟨av,ah,ao⟩,ad,0⟩=PAt.told { x with inner:=.extend (f.tell ⟨aw,⟨av,ah,ao⟩,ad,0⟩) } s:=by
   rcases k with k|k
   ·rw[at_tell_eqW k (by omega) rfl,hi];rfl
   ·rw[at_tell_eqW k (by omega) rfl,hi];rfl
  rw[e] at hn' ⊢;have hlen:=hff.len;have hat:=hff.at_;exact at_tellE ω w F b s x h x.state rfl k aw av ao ah ad f hi hs hit.vf.need (by omega) hff.ok (by omega) hn'
 ·obtain⟨f,hi⟩:=hf.s6 k;have e:x.tell s ⟨aw,⟨av,ah,ao⟩,ad,0⟩=PAt.told { x with inner:=.commit (f.tell ⟨aw,⟨av,ah,ao⟩,ad,0⟩) } s:=by
   rw[at_tell_eqW k (by omega) rfl,hi];rfl
  rw[e] at hn' ⊢;exact at_tellC ω w F b s x h 6 k rfl aw av ao ah ad f hi (hf.co f hi).set hn'
 ·rw[at_tell_eqW k (by omega) rfl]
  exact at_tell7 ω w F b s x h k aw av ao ah ad
theorem fin37 {w W:World}{p:Nat}{ok:Bool}{kind at_ old word wv wo lv lo:Nat}{wh lh:Bool}{tmps:Array Value}(h2:tmps.getD 2 undef=.pointer (some ⟨p,0,none⟩))(h3:tmps.getD 3 undef=.bool ok){cs:Array Value}(hb:Blk W p 95 cs)(hcs:cs=#[.int .i64 kind,.int .i64 at_,.int .u64 old,.int .u64 word,.int .u64 wv,.bool wh,.int .i64 wo,.int .u64 lv,.bool lh,.int .i64 lo])(ho:Only Nob w W):
  bodyPost Tryz.prog Tryz.f37 (fun e w'=>e=.returned (.tuple #[.agg #[.int .i64 kind,.int .i64 at_,.int .u64 old,.int .u64 word,.int .u64 wv,.bool wh,.int .i64 wo,.int .u64 lv,.bool lh,.int .i64 lo],.bool ok])∧Only Nob w w') Exit.ret { tmps:=tmps,defers:=[] } W:=by
 subst hcs;have kl:=hb.lt;have m0:=hb.c 0;have m1:=hb.c 1;have m2:=hb.c 2;have m3:=hb.c 3;have m4:=hb.c 4;have m5:=hb.c 5;have m6:=hb.c 6;have m7:=hb.c 7;have m8:=hb.c 8;have m9:=hb.c 9;refine bodyPost_ret (v:=.tuple #[.agg #[.int .i64 kind,.int .i64 at_,.int .u64 old,.int .u64 word,.int .u64 wv,.bool wh,.int .i64 wo,.int .u64 lv,.bool lh,.int .i64 lo],.bool ok]) ?_ rfl ⟨rfl,ho⟩;have h2':tmps[2]?.getD undef=.pointer (some ⟨p,0,none⟩):=by simpa using h2
 have h3':tmps[3]?.getD undef=.bool ok:=by simpa using h3
 simp[results,Tryz.results37,go_sem,h2',h3',m0,m1,m2,m3,m4,m5,m6,m7,m8,m9]
theorem thX_at {ω w:World}{F:HP}{b:Nat}{s:PSt}{t:PTh}{D:ThD}{x:PAt}(h:Sat ω w (thX b s t D t.job*F))(hx:t.now=some x):∃G,Sat ω w (atH D.nb s x*G)∧∀w' P y,Sat ω w' (P*(atH D.nb s y*G))→Sat ω w' (P*(thX b s { t with now:=some y } D t.job*F)):=by
 refine⟨bk b 138 (thC s t D t.job)*(thT t D*F),h.perm (by unfold thX;rw[hx];show _*(atH D.nb s x*_)*_=_;ac_rfl),fun w' P y h2=>h2.perm ?_⟩
 have e:thC s { t with now:=some y } D t.job=thC s t D t.job:=by unfold thC;rw[hx];rfl
 unfold thX;rw[e];show _=P*((_*(atH D.nb s y*thT t D))*F)
 ac_rfl
theorem th_next (ω w:World)(F:HP)(b:Nat)(s:PSt)(t:PTh)(h:Sat ω w (thH b s t*F))(hst:t.state=1∨t.state=2∨t.state=3∨t.state=4∨t.state=6)(hnow:t.state=1→∃x,t.now=some x∧AtWell x):
  Calls Tryz.prog 37 #[.pointer (some ⟨b,0,none⟩)] w (AtNext w t.next):=by
 obtain⟨D,h⟩:=thH_of h;have hb:=thX_blk h;have lt:=hb.lt;have lt1:b<w.heap.size+1:=by omega
 obtain⟨st,hs⟩:∃st,t.state=st:=⟨_,rfl⟩;have k11:w.cell? ⟨b,11,none⟩=some (.int .i64 st):=by rw[←hs];exact hb.cell 11
 rw[hs] at hst hnow;by_cases h1:st=1
 ·obtain⟨x,hx,hwx⟩:=hnow h1;obtain⟨G,g1,_⟩:=thX_at h hx;have k16:w.cell? ⟨b,16,none⟩=some (pV D.nb):=by
   have e:nowV D.nb t.now=pV D.nb:=by rw[hx];rfl
   rw[←e];exact hb.cell 16
  have HE:Hid (t.next=x.next):=h_ (by unfold PTh.next;rw[hs,h1,hx];rfl)
  have HN:Hid (∀o,Calls Tryz.prog 59 #[.pointer (some ⟨D.nb,0,none⟩)] (w.alloc o) (AtNext (w.alloc o) x.next)):=h_ (fun o=>at_next ω _ _ D.nb s x (g1.junk o) hwx)
  have HO:Hid (Only Nob w (w.alloc (.cells #[.int .i64 0,.int .i64 0,.int .u64 0,.int .u64 0,.int .u64 0,.bool false,.int .i64 0,.int .u64 0,.bool false,.int .i64 0] 95))):=h_ ((Only.refl _ _).alloc _);rw[HE.o];unfold AtNext at HN ⊢;generalize x.next=r at *
  obtain⟨⟨kind,at_,old,word,⟨wv,wh,wo⟩,⟨lv,lh,lo⟩⟩,ok⟩:=r;have n1:((st:Int)==1)=true:=by subst h1;rfl
  unfold opA at HN ⊢;simp only at HN ⊢;have HB0:Hid (Blk (w.alloc (.cells #[.int .i64 0,.int .i64 0,.int .u64 0,.int .u64 0,.int .u64 0,.bool false,.int .i64 0,.int .u64 0,.bool false,.int .i64 0] 95)) w.heap.size 95 #[.int .i64 0,.int .i64 0,.int .u64 0,.int .u64 0,.int .u64 0,.bool false,.int .i64 0,.int .u64 0,.bool false,.int .i64 0]):=h_ (Blk.new _ _ _);go_enter Tryz.func37,Tryz.ntmps37;go_wp2_with (go_at_call 59;refine(HN.o _).mono ?_;rintro e w1 ⟨rfl,ho⟩;have kb:=HB0.o.only ho (fun e=>e);have kl:=kb.lt;have kf:=kb.frozen;have m0:=kb.cell 0;have m1:=kb.cell 1;have m2:=kb.cell 2;have m3:=kb.cell 3;have m4:=kb.cell 4;have m5:=kb.cell 5;have m6:=kb.cell 6;have m7:=kb.cell 7;have m8:=kb.cell 8;have m9:=kb.cell 9;have HO1:=h_ (HO.o.trans ho);have KB:=h_ kb)
  have KB2:=((((((((((KB.out.set_ 0 (.int .i64 kind)).set_ 1 (.int .i64 at_)).set_ 2 (.int .u64 old)).set_ 3 (.int .u64 word)).set_ 4 (.int .u64 wv)).set_ 5 (.bool wh)).set_ 6 (.int .i64 wo)).set_ 7 (.int .u64 lv)).set_ 8 (.bool lh)).set_ 9 (.int .i64 lo));have HO2:=((((((((((HO1.o.setCell (p:=⟨w.heap.size,0,none⟩) (.inr (Nat.le_refl _)) (.int .i64 kind)).setCell (p:=⟨w.heap.size,1,none⟩) (.inr (Nat.le_refl _)) (.int .i64 at_)).setCell (p:=⟨w.heap.size,2,none⟩) (.inr (Nat.le_refl _)) (.int .u64 old)).setCell (p:=⟨w.heap.size,3,none⟩) (.inr (Nat.le_refl _)) (.int .u64 word)).setCell (p:=⟨w.heap.size,4,none⟩) (.inr (Nat.le_refl _)) (.int .u64 wv)).setCell (p:=⟨w.heap.size,5,none⟩) (.inr (Nat.le_refl _)) (.bool wh)).setCell (p:=⟨w.heap.size,6,none⟩) (.inr (Nat.le_refl _)) (.int .i64 wo)).setCell (p:=⟨w.heap.size,7,none⟩) (.inr (Nat.le_refl _)) (.int .u64 lv)).setCell (p:=⟨w.heap.size,8,none⟩) (.inr (Nat.le_refl _)) (.bool lh)).setCell (p:=⟨w.heap.size,9,none⟩) (.inr (Nat.le_refl _)) (.int .i64 lo));refine fin37 ?_ ?_ KB2 ?_ HO2
  ·simp
  ·simp
  ·simp
 have n1:((st:Int)==1)=false:=by simp;omega
 by_cases h2:st=2
 ·have k23:=hb.c 23;have HE:Hid (t.next=(POp.at' 8 t.by_,true)):=h_ (by unfold PTh.next;rw[hs,h2];rfl)
  have n2:((st:Int)==2)=true:=by subst h2;rfl
  rw[HE.o];unfold AtNext opA POp.at' POp.zero PLk.zero;simp only;generalize t.by_=by_ at *
  go_enter Tryz.func37,Tryz.ntmps37;go_wp2;refine bodyPost_ret (v:=.tuple #[.agg #[.int .i64 8,.int .i64 by_,.int .u64 0,.int .u64 0,.int .u64 0,.bool false,.int .i64 0,.int .u64 0,.bool false,.int .i64 0],.bool true]) (by simp[results,Tryz.results37,go_sem]) rfl ⟨?_,?_⟩
  ·first|rfl|simp
  ·repeat' (first|exact Only.refl _ _|(with_reducible first|refine Only.setCell ?_ ?_ _|refine Only.alloc ?_ _|refine Only.drew ?_))
   all_goals (try exact .inr (Nat.le_refl _))
 ·have n2:((st:Int)==2)=false:=by simp;omega
  have n5:((st:Int)==5)=false:=by simp;omega
  have HE:Hid (t.next=(POp.zero,false)):=h_ (by
   unfold PTh.next;rcases hst with k|k|k|k|k
   ·exact absurd k h1
   ·exact absurd k h2
   all_goals (rw[hs,k];rfl))
  rw[HE.o];unfold AtNext opA POp.zero PLk.zero;simp only;go_enter Tryz.func37,Tryz.ntmps37;go_wp2;refine bodyPost_ret (v:=.tuple #[.agg #[.int .i64 0,.int .i64 0,.int .u64 0,.int .u64 0,.int .u64 0,.bool false,.int .i64 0,.int .u64 0,.bool false,.int .i64 0],.bool false]) (by simp[results,Tryz.results37,go_sem]) rfl ⟨?_,?_⟩
  ·first|rfl|simp
  ·repeat' (first|exact Only.refl _ _|(with_reducible first|refine Only.setCell ?_ ?_ _|refine Only.alloc ?_ _|refine Only.drew ?_))
   all_goals (try exact .inr (Nat.le_refl _))
theorem th_state (ω w:World)(F:HP)(b:Nat)(s:PSt)(t:PTh)(h:Sat ω w (thH b s t*F)):
  Calls Tryz.prog 49 #[.pointer (some ⟨b,0,none⟩)] w fun e w'=>e=.returned (.int .i64 t.state)∧w'=w:=by
 obtain⟨D,h⟩:=thH_of h;have hb:=thX_blk h;have lt:=hb.lt;have k11:=hb.c 11;generalize t.state=st at *
 go_enter Tryz.func49,Tryz.ntmps49;go_wp2;go_ret;exact⟨rfl,rfl⟩
theorem any_hit {l:List (Nat×Nat)}{s v k:Nat}(hk:k<l.length)(h1:(l.getD k (0,0)).1=s)(h2:(l.getD k (0,0)).2≠v):l.any (fun r=>r.1==s&&r.2 != v)=true:=by
 rw[List.any_eq_true];refine⟨l.getD k (0,0),?_,?_⟩
 ·rw[gD,List.getElem?_eq_getElem hk];exact List.getElem_mem _
 ·simp only[Bool.and_eq_true,beq_iff_eq,bne_iff_ne];exact⟨h1,h2⟩
theorem any_miss {l:List (Nat×Nat)}{s v:Nat}(h:∀j,j<l.length→(l.getD j (0,0)).1≠s∨(l.getD j (0,0)).2=v):l.any (fun r=>r.1==s&&r.2 != v)=false:=by
 rw[List.any_eq_false];intro r hr;obtain⟨j,hj,rfl⟩:=List.mem_iff_getElem.1 hr
 have:=h j hj
 rw[gD,List.getElem?_eq_getElem hj] at this;simp only[Bool.and_eq_true,beq_iff_eq,bne_iff_ne,not_and,ne_eq,Decidable.not_not];intro e;rcases this with h1|h1
 ·exact absurd e h1
 ·exact h1
theorem th_wake (ω w:World)(F:HP)(b:Nat)(s:PSt)(t:PTh)(h:Sat ω w (thH b s t*F))(hs:s.kept)(hf:t.fit)(hr:∀x,t.now=some x→x.reads.length≤16)(k v:Nat):
  Calls Tryz.prog 40 #[.pointer (some ⟨b,0,none⟩),.int .i64 k,.int .u64 v] w (Rets ω F (.tuple #[]) (thH b s (t.wake s k v))):=by
 obtain⟨D,h⟩:=thH_of h;have hb:=thX_blk h;have lt:=hb.lt;have kf:=hb.frozen;have k16:=hb.c 16;cases hx:t.now with
 |none =>
  have e0:t.wake s k v=t:=by unfold PTh.wake;rw[hx]
  rw[e0];rw[hx] at k16;have k16':w.cell? ⟨b,16,none⟩=some (.pointer none):=k16;have HZ:=h_ (thH_to h);clear h hb hx hs hf hr e0 k16;go_enter Tryz.func40,Tryz.ntmps40;go_wp2;first|(go_ret;exact⟨rfl,HZ.o⟩)|exact bodyPost_end (results_none rfl _ _ _) rfl ⟨rfl,HZ.o⟩|exact bodyPost_ret (results_none rfl _ _ _) rfl ⟨rfl,HZ.o⟩
 |some x =>
  have hrl:=hr x hx;obtain⟨G,g1,g2⟩:=thX_at h hx;have eself:({ t with now:=some x }:PTh)=t:=by rw[←hx]
  rw[hx] at k16;have k16':w.cell? ⟨b,16,none⟩=some (.pointer (some ⟨D.nb,0,none⟩)):=k16;have HSE:=h_ (at_seen ω w G D.nb s x g1 (by omega))
  have HBK:Hid (∀w1 P,Sat ω w1 (P*(atH D.nb s x*G))→Sat ω w1 (P*(thX b s t D t.job*F))):=h_ (fun w1 P h1=>by have h2:=g2 w1 P x h1;rw[eself] at h2;exact h2)
  obtain⟨l,hl⟩:∃l,x.reads=l:=⟨_,rfl⟩;have HW:Hid (t.wake s k v=if l.any (fun r=>r.1==k&&r.2 != v) then(if t.state=4 then t.again s else if t.state=1∧x.blockingOf then { t with alarmed:=true } else t) else t):=h_ (by
   unfold PTh.wake;rw[hx];simp only[hl])
  rw[hl] at hrl HSE;obtain⟨N,hN⟩:∃N,l.length=N:=⟨_,rfl⟩;rw[hN] at hrl HSE;have HRW:Hid (∀w0 w1 A c (j:Nat),Sat ω w0 (row 148 2 (.slice A N c) N (vS l)*(atH D.nb s x*G))→Only Nob w0 w1→j<N→∃g,A=some ⟨g,0,none⟩∧g<w1.heap.size∧w1.cell? ⟨g,j*2,none⟩=some (.int .i64 ((l.getD j (0,0)).1:Int))∧w1.cell? ⟨g,j*2+1,none⟩=some (.int .u64 ((l.getD j (0,0)).2:Int))):=h_ (fun w0 w1 A c j h0 ho hj=>by
   subst hN;obtain⟨g,h5,h6,h7⟩:=(h0.nob ho).rowAt (l:=l) (f:=seV) (fun _=>rfl) (0,0) hj
   exact⟨g,h5,h6,h7 0 (by omega),h7 1 (by omega)⟩)
  have HHI:Hid (∀j,j<N→(l.getD j (0,0)).1=k→(l.getD j (0,0)).2≠v→l.any (fun r=>r.1==k&&r.2 != v)=true):=h_ (fun j hj h1 h2=>any_hit (hN▸hj) h1 h2)
  have HMI:Hid ((∀j,j<N→(l.getD j (0,0)).1≠k∨(l.getD j (0,0)).2=v)→l.any (fun r=>r.1==k&&r.2 != v)=false):=h_ (fun h1=>any_miss (hN▸h1))
  have HBL:Hid (∀w1 P,Sat ω w1 (P*(atH D.nb s x*G))→Calls Tryz.prog 68 #[.pointer (some ⟨D.nb,0,none⟩)] w1 fun e w'=>e=.returned (.bool x.blockingOf)∧w'=w1):=h_ (fun w1 P h1=>at_blocking ω w1 _ D.nb s x h1.swap)
  have HAG:Hid (∀w1 P,Sat ω w1 (P*(thX b s t D t.job*F))→Calls Tryz.prog 60 #[.pointer (some ⟨b,0,none⟩)] w1 (Rets ω F (.tuple #[]) (thH b s (t.again s)))):=h_ (fun w1 P h1=>th_again ω w1 F b s t D h1.right hs hf)
  have HCE:Hid (∀w1 P,Sat ω w1 (P*(thX b s t D t.job*F))→Blk w1 b 138 (thC s t D t.job)):=h_ (fun w1 P h1=>thX_blk h1.right)
  have HAL:Hid (∀w1 P,Sat ω w1 (P*(thX b s t D t.job*F))→Sat ω (w1.setCell ⟨b,18,none⟩ (.bool true)) (thH b s { t with alarmed:=true }*F)):=h_ (fun w1 P h1=>thH_to (D:=D) (thX_put (t':={ t with alarmed:=true }) h1.right 18 (.bool true) rfl rfl rfl rfl rfl))
  have HTO:Hid (∀w1 P,Sat ω w1 (P*(thX b s t D t.job*F))→Sat ω w1 (thH b s t*F)):=h_ (fun w1 P h1=>thH_to h1.right)
  rw[HW.o];have HNV:Hid (nowV D.nb t.now=pV D.nb):=h_ (by rw[hx];rfl)
  generalize x.blockingOf=bl at *
  generalize hany:l.any (fun r=>r.1==k&&r.2 != v)=an at *
  obtain⟨y0,hy0⟩:∃y0,(if an=true then(if t.state=4 then t.again s else if t.state=1∧bl=true then { t with alarmed:=true } else t) else t)=y0:=⟨_,rfl⟩
  rw[hy0];have HY0:=h_ hy0;clear h hb g1 g2 hs hf hr hl hN k16 HW hany hx eself hy0;go_enter Tryz.func40,Tryz.ntmps40;go_wp2_with (go_at_call 67;refine(HSE.o).mono ?_;rintro e w1 ⟨A,c,rfl,hs⟩;have HS:=h_ hs;clear hs);go_loopw [7,19] (fun _ i wr=>∃j:Nat,j≤N∧i=.int .i64 j∧Hid (Only Nob w1 wr)∧Hid (∀q,q<j→(l.getD q (0,0)).1≠k∨(l.getD q (0,0)).2=v)) (fun _ i _=>N-(intOf i).toNat)
  case atStart=>exact⟨0,by omega,rfl,Only.refl _ _,fun j hj=>absurd hj (by omega)⟩
  case round =>
   obtain⟨j,hj,rfl,HO,HP⟩:=hrel;by_cases hlt:j<N
   ·obtain⟨g,rfl,hg,r0,r1⟩:=HRW.o w1 _ _ _ j HS.o HO.o hlt;have HX:=h_ (fun h1 h2=>HHI.o j hlt h1 h2)
    obtain⟨x1,hx1⟩:∃x1,(l.getD j (0,0)).1=x1:=⟨_,rfl⟩;obtain⟨x2,hx2⟩:∃x2,(l.getD j (0,0)).2=x2:=⟨_,rfl⟩;rw[hx1] at r0 HX;rw[hx2] at r1 HX;have HX1:=h_ hx1;have HX2:=h_ hx2;by_cases he:x1=k∧x2≠v
    ·have han:=HX.o he.1 he.2;have d1:((x1:Int) != (k:Int))=false:=by simp;omega
     have d2:((x2:Int)==(v:Int))=false:=by simp;omega
     have HO2:Hid (Sat ω (wr.alloc (.cells #[.int .i64 x1,.int .u64 x2] 148)) (row 148 2 (.slice (some ⟨g,0,none⟩) N c) N (vS l)*(atH D.nb s x*G))):=h_ ((HS.o.nob HO.o).junk _);have HTH:=h_ (HBK.o _ _ HO2.o);have HCB:=h_ (HCE.o _ _ HTH.o);have qf:=HCB.o.frozen;have ql:=HCB.o.lt;obtain⟨st,hst⟩:∃st,t.state=st:=⟨_,rfl⟩;have q11:(wr.alloc (.cells #[.int .i64 x1,.int .u64 x2] 148)).cell? ⟨b,11,none⟩=some (.int .i64 st):=by rw[←hst];exact HCB.o.cell 11
     have q16:(wr.alloc (.cells #[.int .i64 x1,.int .u64 x2] 148)).cell? ⟨b,16,none⟩=some (.pointer (some ⟨D.nb,0,none⟩)):=by have e9:(wr.alloc (.cells #[.int .i64 x1,.int .u64 x2] 148)).cell? ⟨b,16,none⟩=some (nowV D.nb t.now):=HCB.o.cell 16;rw[HNV.o] at e9;exact e9
     have q18:(wr.alloc (.cells #[.int .i64 x1,.int .u64 x2] 148)).cell? ⟨b,18,none⟩=some (.bool t.alarmed):=HCB.o.cell 18;have HA1:=h_ (HAG.o _ _ HTH.o);have HB1:=h_ (HBL.o _ _ HO2.o);have HL1:=h_ (HAL.o _ _ HTH.o);have HT1:=h_ (HTO.o _ _ HTH.o);clear HX HX1 HX2 HP HRW HHI HMI HBL HAG HAL HTO HCE HBK HS he;by_cases h4:st=4
     ·have d4:((st:Int)==4)=true:=by subst h4;rfl
      have hy:t.again s=y0:=by rw[←HY0.o,han,if_pos rfl,hst,if_pos h4]
      subst hy;generalize t.again s=ya at *
      generalize t.alarmed=al at *
      clear h4 HT1 HL1 HB1 hst han HY0;go_wp2_with (go_at_call 60;refine(HA1.o).mono ?_;rintro e w2 ⟨rfl,hs⟩;have HZ:=h_ hs);first|(go_ret;exact⟨rfl,HZ.o⟩)|exact bodyPost_end (results_none rfl _ _ _) rfl ⟨rfl,HZ.o⟩|exact bodyPost_ret (results_none rfl _ _ _) rfl ⟨rfl,HZ.o⟩
     have d4:((st:Int)==4)=false:=by simp;omega
     by_cases h1:st=1
     ·have d5:((st:Int)==1)=true:=by subst h1;rfl
      cases bl
      ·have hy:t=y0:=by rw[←HY0.o,han,if_pos rfl,hst,if_neg h4,if_neg (by simp)]
       subst hy;generalize t.alarmed=al at *
       go_wp2_with (go_at_call 68;refine(HB1.o).mono ?_;rintro e w2 ⟨rfl,rfl⟩);first|(go_ret;exact⟨rfl,HT1.o⟩)|exact bodyPost_end (results_none rfl _ _ _) rfl ⟨rfl,HT1.o⟩|exact bodyPost_ret (results_none rfl _ _ _) rfl ⟨rfl,HT1.o⟩
      ·have hy:({ t with alarmed:=true }:PTh)=y0:=by rw[←HY0.o,han,if_pos rfl,hst,if_neg h4,if_pos ⟨h1,rfl⟩]
       subst hy;generalize ({ t with alarmed:=true }:PTh)=yl at *
       generalize t.alarmed=al at *
       go_wp2_with (go_at_call 68;refine(HB1.o).mono ?_;rintro e w2 ⟨rfl,rfl⟩);first|(go_ret;exact⟨rfl,HL1.o⟩)|exact bodyPost_end (results_none rfl _ _ _) rfl ⟨rfl,HL1.o⟩|exact bodyPost_ret (results_none rfl _ _ _) rfl ⟨rfl,HL1.o⟩
     ·have d5:((st:Int)==1)=false:=by simp;omega
      have hy:t=y0:=by rw[←HY0.o,han,if_pos rfl,hst,if_neg h4,if_neg (fun h9=>h1 h9.1)]
      subst hy;generalize t.alarmed=al at *
      go_wp2;first|(go_ret;exact⟨rfl,HT1.o⟩)|exact bodyPost_end (results_none rfl _ _ _) rfl ⟨rfl,HT1.o⟩|exact bodyPost_ret (results_none rfl _ _ _) rfl ⟨rfl,HT1.o⟩
    ·have HP2:Hid (∀q,q<j+1→(l.getD q (0,0)).1≠k∨(l.getD q (0,0)).2=v):=h_ (fun q hq=>by
      rcases Nat.lt_or_ge q j with h1|h1
      ·exact HP.o q h1
      ·obtain rfl:q=j:=by omega
       rw[HX1.o,HX2.o];omega)
     by_cases he1:x1=k
     ·have d1:((x1:Int) != (k:Int))=false:=by simp;omega
      have d2:((x2:Int)==(v:Int))=true:=by rw[beq_iff_eq];omega
      go_wp2;exact⟨⟨j+1,by omega,by go_num,HO.o.alloc _,HP2.o⟩,by simp[intOf];omega⟩
     ·have d1:((x1:Int) != (k:Int))=true:=by simp;omega
      go_wp2;exact⟨⟨j+1,by omega,by go_num,HO.o.alloc _,HP2.o⟩,by simp[intOf];omega⟩
   ·have HE:=h_ (HMI.o (fun q hq=>HP.o q (by omega)))
    have HZ:=h_ (HTO.o _ _ (HBK.o _ _ (HS.o.nob HO.o)));have hy:t=y0:=by rw[←HY0.o,HE.o];rfl
    subst hy;go_wp2;first|(go_ret;exact⟨rfl,HZ.o⟩)|exact bodyPost_end (results_none rfl _ _ _) rfl ⟨rfl,HZ.o⟩|exact bodyPost_ret (results_none rfl _ _ _) rfl ⟨rfl,HZ.o⟩
theorem infoAtt_:(Tryz.prog.info? 52).map (fun i=>(i.zero,i.size,i.bytes))=some (some (.agg #[.int .i64 0,.int .i64 0,.int .i64 0,.bool false,.int .i64 0,.int .i64 0,.int .u64 0,.int .u64 0,.int .i64 0,.int .i64 0,.slice none 0 0,.slice none 0 0,.slice none 0 0,.string ⟨#[]⟩]),14,168):=by kernel_rfl
theorem infoRes_:(Tryz.prog.info? 66).map (fun i=>(i.zero,i.size,i.bytes))=some (some (.agg #[.int .i64 0,.int .i64 0,.string ⟨#[]⟩,.int .u64 0]),4,40):=by kernel_rfl
theorem toVs_snoc (q:Value×Value)(T:PTo):∀(ps:List (Value×Value)) (ts:List PTo),ps.length=ts.length→toVs (ps++[q]) (ts++[T])=toVs ps ts++toV q T∧toAll (ps++[q]) (ts++[T])=toAll ps ts*toH q T
 | [],[],_=>by
  refine⟨by simp[toVs],?_⟩
  show toH q T*emp=emp*toH q T
  exact star_comm _ _
 |p::ps,t::ts,h=>by
  obtain⟨h1,h2⟩:=toVs_snoc q T ps ts (by simpa using h)
  refine⟨?_,?_⟩
  ·show toV p t++toVs (ps++[q]) (ts++[T])=toV p t++toVs ps ts++toV q T
   rw[h1,List.append_assoc]
  ·show toH p t*toAll (ps++[q]) (ts++[T])=(toH p t*toAll ps ts)*toH q T
   rw[h2];ac_rfl
def pastG (b:Nat)(s:PSt)(t:PTh)(D:ThD):HP:=bk b 138 (thC s t D t.job)*(nowH s D.nb t.now*(thJ t.jobs D*(toAll D.ps t.past*(row 66 4 D.rv t.results.length (t.results.flatMap reV)*bk D.lb 188 #[.slice none 0 0]))))
theorem thX_past {ω w:World}{F:HP}{b:Nat}{s:PSt}{t:PTh}{D:ThD}(h:Sat ω w (thX b s t D t.job*F)):D.ps.length=t.past.length∧Sat ω w (row 52 14 D.pv t.past.length (toVs D.ps t.past)*(pastG b s t D*F)):=by
 unfold thX thT at h;have h1:Sat ω w (fact (D.ps.length=t.past.length)*(row 52 14 D.pv t.past.length (toVs D.ps t.past)*(pastG b s t D*F))):=h.perm (by unfold pastG;ac_rfl)
 exact h1.of_fact
theorem pastG_blk {ω w:World}{F R:HP}{b:Nat}{s:PSt}{t:PTh}{D:ThD}(h:Sat ω w (R*(pastG b s t D*F))):Blk w b 138 (thC s t D t.job):=by
 have h1:=h.right;unfold pastG at h1;exact h1.assoc.blk
theorem thX_put19 {ω w:World}{F:HP}{b:Nat}{s:PSt}{t:PTh}{D:ThD}{T:PTo}{q:Value×Value}{A:Option Addr}{n c:Nat}(hn:t.past.length=n)(hl:D.ps.length=t.past.length)
  (h:Sat ω w (row 52 14 (.slice A (n+1) c) (n+1) (toVs D.ps t.past++toV q T)*(pastG b s t D*(toH q T*F)))):
  Sat ω (w.setCell ⟨b,19,none⟩ (.slice A (n+1) c)) (thX b s { t with past:=t.past++[T] } { D with pv:=.slice A (n+1) c,ps:=D.ps++[q] } t.job*F):=by
 unfold pastG at h;have h0:Sat ω w (bk b 138 (thC s t D t.job)*(row 52 14 (.slice A (n+1) c) (n+1) (toVs D.ps t.past++toV q T)*(nowH s D.nb t.now*(thJ t.jobs D*(toAll D.ps t.past*((row 66 4 D.rv t.results.length (t.results.flatMap reV)*bk D.lb 188 #[.slice none 0 0])*(toH q T*F))))))):=h.perm (by ac_rfl)
 have h2:=h0.put 19 (.slice A (n+1) c) (cs':=thC s { t with past:=t.past++[T] } { D with pv:=.slice A (n+1) c,ps:=D.ps++[q] } t.job) rfl
 obtain⟨e1,e2⟩:=toVs_snoc q T D.ps t.past hl;unfold thX thT;simp only;rw[e1,e2];have h3:=h2.to_fact (p:=(D.ps++[q]).length=(t.past++[T]).length) (by simp[hl])
 have e3:(t.past++[T]).length=n+1:=by simp[hn]
 rw[e3] at h3 ⊢;refine h3.perm ?_;unfold thJ nowH;ac_rfl
def resG (b:Nat)(s:PSt)(t:PTh)(D:ThD):HP:=bk b 138 (thC s t D t.job)*(nowH s D.nb t.now*(thJ t.jobs D*((fact (D.ps.length=t.past.length)*(row 52 14 D.pv t.past.length (toVs D.ps t.past)*toAll D.ps t.past))*bk D.lb 188 #[.slice none 0 0])))
theorem thX_res {ω w:World}{F:HP}{b:Nat}{s:PSt}{t:PTh}{D:ThD}(h:Sat ω w (thX b s t D t.job*F)):Sat ω w (row 66 4 D.rv t.results.length (t.results.flatMap reV)*(resG b s t D*F)):=by
 unfold thX thT at h;exact h.perm (by unfold resG;ac_rfl)
theorem thX_unres {ω w:World}{F:HP}{b:Nat}{s:PSt}{t:PTh}{D:ThD}(h:Sat ω w (row 66 4 D.rv t.results.length (t.results.flatMap reV)*(resG b s t D*F))):Sat ω w (thX b s t D t.job*F):=by
 unfold resG at h;unfold thX thT;exact h.perm (by ac_rfl)
theorem resG_blk {ω w:World}{F R:HP}{b:Nat}{s:PSt}{t:PTh}{D:ThD}(h:Sat ω w (R*(resG b s t D*F))):Blk w b 138 (thC s t D t.job):=by
 have h1:=h.right;unfold resG at h1;exact h1.assoc.blk
theorem thX_put20 {ω w:World}{F:HP}{b:Nat}{s:PSt}{t:PTh}{D:ThD}{r:PRe}{A:Option Addr}{n c:Nat}(hn:t.results.length=n)
  (h:Sat ω w (row 66 4 (.slice A (n+1) c) (n+1) (t.results.flatMap reV++reV r)*(resG b s t D*F))):
  Sat ω (w.setCell ⟨b,20,none⟩ (.slice A (n+1) c)) (thX b s { t with results:=t.results++[r] } { D with rv:=.slice A (n+1) c } t.job*F):=by
 unfold resG at h;have h0:Sat ω w (bk b 138 (thC s t D t.job)*(row 66 4 (.slice A (n+1) c) (n+1) (t.results.flatMap reV++reV r)*(nowH s D.nb t.now*(thJ t.jobs D*(((fact (D.ps.length=t.past.length)*(row 52 14 D.pv t.past.length (toVs D.ps t.past)*toAll D.ps t.past))*bk D.lb 188 #[.slice none 0 0])*F))))):=h.perm (by ac_rfl)
 have h2:=h0.put 20 (.slice A (n+1) c) (cs':=thC s { t with results:=t.results++[r] } { D with rv:=.slice A (n+1) c } t.job) rfl
 unfold thX thT;simp only;have e3:(t.results++[r]).length=n+1:=by simp[hn]
 have e4:(t.results++[r]).flatMap reV=t.results.flatMap reV++reV r:=by simp
 rw[e3,e4];refine h2.perm ?_;unfold thJ;ac_rfl
end Go.Proofs.YtfodmgaliclhfaaGreatDoor
