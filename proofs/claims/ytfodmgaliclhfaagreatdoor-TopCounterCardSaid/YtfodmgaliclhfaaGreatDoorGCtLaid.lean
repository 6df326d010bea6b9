/- Lemmas; no conditions. -/
import Derived.Test.YtfodmgaliclhfaaGreatDoorGCnN
import Derived.Test.YtfodmgaliclhfaaGreatDoorGThEnd
import Derived.Test.YtfodmgaliclhfaaGreatDoorGCtSu
import Derived.Deep.CutBlock
import Derived.Deep.DeepCutAuto
import Derived.Test.YtfodmgaliclhfaaGreatDoorGCodeMay
import Derived.Test.YtfodmgaliclhfaaGreatDoorGAt2
import Derived.Test.YtfodmgaliclhfaaGreatDoorRows
import Derived.Stop.LaidErr
import Derived.Stop.Joined
import Derived.Lib.LaidTab
import Derived.MakeChecks
namespace Go.Proofs.YtfodmgaliclhfaaGreatDoor
set_option linter.unusedVariables false
set_option linter.unusedSimpArgs false
set_option maxRecDepth 100000
set_option maxHeartbeats 16000000
open Go.RowKit
section
namespace Cn
def Live (D:Nat→Td)(k:Nat):Prop:=shape (D k)=4∨(∀j,shape (D j)≠4)∧(shape (D k)=3∨shape (D k)=2∨shape (D k)=1∧∀j,shape (D j)≤1)
theorem Live.same {D D':Nat→Td}{k:Nat}(h:Live D k)(e:∀j,shape (D' j)=shape (D j)):Live D' k:=by
 unfold Live at *
 simp only[e];exact h
section
variable {s : PSt} {t0 i : Nat} {M : PMc} {g g' : Sh} {J : Nat → Nat} {D : Nat → Td} {N : Nat → List Nat} {t : PTh}
theorem shape4 {d:Td}(h:d.hold=true):shape d=4:=by
 obtain⟨ph,rfl,e⟩:=hold_ph h;exact if_pos e
theorem shape_not4 {d:Td}(h:d.hold=false):shape d≠4:=by
 cases d with
 |at_ ph =>
  have e:ph.hold=false:=h;show(if ph.hold then 4 else 3)≠4
  rw[e];decide
 |wait _ _ _=>show(1:Nat)≠4;decide
 |rest _=>show(2:Nat)≠4;decide
 |over=>show(0:Nat)≠4;decide
theorem shape_low {d:Td}(h:shape d≤1):d.ph=none:=by
 cases d with
 |at_ ph =>
  exfalso
  have:(if ph.hold then 4 else 3)≤1:=h
  split at this<;>omega
 |_=>rfl
theorem MI.live (h:MI s t0 M J g D N)(hne:∃k,D k≠.over):∃k,k<M.thr.length∧Live D k:=by
 have hin:∀k,shape (D k)≠0→k<M.thr.length:=fun k hk=>by
  by_cases hlt:k<M.thr.length
  ·exact hlt
  ·rw[(h.out k (by omega)).2] at hk
   exact absurd rfl hk
 by_cases h4:∃k,shape (D k)=4
 ·obtain⟨k,hk⟩:=h4;exact⟨k,hin k (by omega),.inl hk⟩
 ·have h4':∀j,shape (D j)≠4:=fun j e=>h4 ⟨j,e⟩
  by_cases h2:∃k,2≤shape (D k)
  ·obtain⟨k,hk⟩:=h2;refine⟨k,hin k (by omega),.inr ⟨h4',?_⟩⟩
   have:shape (D k)≤4:=by unfold shape;split<;>(try split)<;>omega
   have:=h4' k
   omega
  ·obtain⟨k,hk⟩:=hne;have hk1:shape (D k)=1:=by
    have:shape (D k)≠0:=fun e=>by
     cases hD:D k with
     |over=>exact hk hD
     |at_ ph =>
      rw[hD] at e
      have:(if ph.hold then 4 else 3)=0:=e
      split at this<;>omega
     |wait _ _ _=>rw[hD] at e;cases e
     |rest _=>rw[hD] at e;cases e
    have:¬2≤shape (D k):=fun e=>h2 ⟨k,e⟩
    omega
   exact⟨k,hin k (by omega),.inr ⟨h4',.inr (.inr ⟨hk1,fun j=>by
    have:¬2≤shape (D j):=fun e=>h2 ⟨j,e⟩
    omega⟩)⟩⟩
theorem mi_live (h:MI s t0 M J g D N)(hp:M.picks≤1000000)(ht:M.thr[i]?=some t)(dr:Nat):∃g' D' N',MI s t0 (M.pick i dr) J g' D' N' ∧
  (psiM s J (M.pick i dr) g' D' N'<psiM s J M g D N∨psiM s J (M.pick i dr) g' D' N'=psiM s J M g D N∧(∀k,Live D k→Live D' k)∧¬Live D i):=by
 obtain⟨g',D',N',h',hm⟩:=mi_move h hp ht dr;refine⟨g',D',N',h',hm.imp id ?_⟩;rintro⟨e,hs,hh,hc⟩;refine⟨e,fun k hk=>hk.same hs,fun hl=>?_⟩
 rcases hl with h4|⟨h4,hl⟩
 ·exact shape_not4 hh h4
 ·rcases hc with hc|hc|⟨b,y,n,hc,hb⟩
  ·exact h4 _ (shape4 (h.ownD hc).1)
  ·rw[hc] at hl;have e0:shape .over=0:=rfl;rw[e0] at hl;omega
  ·have e1:shape (D i)=1:=by rw[hc];rfl
   have hall:∀j,shape (D j)≤1:=by
    rcases hl with hl|hl|⟨_,hl⟩
    ·omega
    ·omega
    ·exact hl
   by_cases hbt:b<s.threads
   ·exact hb ((h.sinok b hbt).zero (shape_low (hall b)))
   ·exact hb (by rw[gD,List.getElem?_eq_none (by rw[h.since];omega)];rfl)
end
end Cn
end
section
namespace Cn
def runs (l:List (Nat×Nat))(M:PMc):PMc:=l.foldl (fun M p=>M.pick p.1 p.2) M
section
variable {s : PSt} {t0 : Nat} {J : Nat → Nat}
theorem mi_runs:∀(l:List (Nat×Nat)) {M:PMc} {g:Sh} {D:Nat→Td} {N:Nat→List Nat},MI s t0 M J g D N→M.picks+l.length≤1000000→(∀p∈l,p.1<s.threads) →
  ∃g' D' N',MI s t0 (runs l M) J g' D' N'∧(runs l M).picks=M.picks+l.length∧psiM s J (runs l M) g' D' N'≤psiM s J M g D N∧((∃k,Live D k∧∃p∈l,p.1=k)→psiM s J (runs l M) g' D' N'<psiM s J M g D N)
 | [],M,g,D,N,h,_,_=>⟨g,D,N,h,rfl,Nat.le_refl _,fun⟨_,_,_,h,_⟩=>by cases h⟩
 |p::l,M,g,D,N,h,hp,hl=>by
  have hp1:p.1<M.thr.length:=by rw[←h.threads];exact hl p List.mem_cons_self
  have hlen:(p::l).length=l.length+1:=rfl;rw[hlen] at hp;obtain⟨g1,D1,N1,h1,hm⟩:=mi_live h (by omega) (List.getElem?_eq_getElem hp1) p.2
  have hpk:(M.pick p.1 p.2).picks=M.picks+1:=by
   unfold PMc.pick;simp only[List.getElem?_eq_getElem hp1];repeat' split
   all_goals rfl
  obtain⟨g2,D2,N2,h2,e2,l2,m2⟩:=mi_runs l h1 (by omega) (fun q hq=>hl q (List.mem_cons_of_mem _ hq))
  refine⟨g2,D2,N2,h2,e2.trans (by rw[hpk,hlen];omega),?_,?_⟩
  ·show psiM s J (runs l (M.pick p.1 p.2)) g2 D2 N2≤_
   rcases hm with hm|⟨hm,_⟩<;>omega
  ·rintro⟨k,hk,q,hq,hqk⟩;show psiM s J (runs l (M.pick p.1 p.2)) g2 D2 N2<_
   rcases hm with hm|⟨hm,hs,hn⟩
   ·omega
   ·rcases List.mem_cons.1 hq with rfl|hq
    ·subst hqk;exact absurd hk hn
    ·have:=m2 ⟨k,hs k hk,q,hq,hqk⟩
     omega
theorem mi_round {l:List (Nat×Nat)}{M:PMc}{g:Sh}{D:Nat→Td}{N:Nat→List Nat}(h:MI s t0 M J g D N)(hp:M.picks+l.length≤1000000)(hl:∀p∈l,p.1<s.threads)(hall:∀k,k<s.threads→∃p∈l,p.1=k):
  ∃g' D' N',MI s t0 (runs l M) J g' D' N'∧(runs l M).picks=M.picks+l.length∧(psiM s J (runs l M) g' D' N'<psiM s J M g D N∨∀k,D k=.over):=by
 obtain⟨g',D',N',h',e,_,hm⟩:=mi_runs l h hp hl;refine⟨g',D',N',h',e,?_⟩;by_cases hne:∃k,D k≠.over
 ·obtain⟨k,hk,hk2⟩:=h.live hne;exact .inl (hm ⟨k,hk2,hall k (by rw[h.threads];exact hk)⟩)
 ·refine .inr fun k=>?_
  cases hD:D k with
  |over=>rfl
  |_=>exact absurd ⟨k,by rw[hD];simp⟩ hne
end
end Cn
end
section
namespace Cn
section
variable {s : PSt} {t0 : Nat} {J : Nat → Nat} {M : PMc} {g : Sh} {D : Nat → Td} {N : Nat → List Nat}
theorem MI.rests (h:MI s t0 M J g D N):M.rests=true↔∀k,D k=.over:=by
 unfold PMc.rests;rw[List.all_eq_true];constructor
 ·intro h1 k;by_cases hk:k<M.thr.length
  ·have h2:=h1 _ (List.getElem_mem hk);have h3:=(h.thr k _ (List.getElem?_eq_getElem hk)).does;cases hD:D k with
   |over=>rfl
   |at_ ph=>rw[hD] at h3;rw[h3.1] at h2;cases h2
   |wait _ _ _=>rw[hD] at h3;rw[h3.1] at h2;cases h2
   |rest _=>rw[hD] at h3;rw[h3.1] at h2;cases h2
  ·exact(h.out k (by omega)).2
 ·intro h1 t ht;obtain⟨k,hk,rfl⟩:=List.getElem_of_mem ht;have h3:=(h.thr k _ (List.getElem?_eq_getElem hk)).does;rw[h1 k] at h3;rw[h3.1];rfl
theorem MI.ended (h:MI s t0 M J g D N)(ho:∀k,D k=.over):M.mem.words.getD 9 0=cur g.H∧(∀i t,M.thr[i]?=some t→Tolds (N i) t.results∧(N i).length=J i) ∧
  ∀n,(N 0++N 1++N 2++N 3).count n=if 1≤n∧n≤cur g.H then 1 else 0:=by
 refine⟨(h.li.free (h.lockF fun k=>by rw[ho k];rfl)).2.2.1,fun i t ht=>?_,fun n=>?_⟩
 ·have h1:=h.thr i t ht;have h2:=h1.does;rw[ho i] at h2;refine⟨h1.told,?_⟩;rw[h1.count,h2.2,h1.jobs];simp
 ·rw[←h.nums n];unfold cN;rw[ho 0,ho 1,ho 2,ho 3];simp[numD,List.count_append];omega
end
theorem count_len:∀(c:Nat) (l:List Nat),(∀n,l.count n=if 1≤n∧n≤c then 1 else 0)→l.length=c
 |0,l,h=>by
  cases l with
  |nil=>rfl
  |cons a l =>
   have:=h a
   rw[List.count_cons_self,if_neg (by omega)] at this
   omega
 |c+1,l,h=>by
  have hm:c+1∈l:=List.count_pos_iff.1 (by rw[h,if_pos (by omega)];decide)
  have:=count_len c (l.erase (c+1)) (fun n=>by
   rw[List.count_erase,h];by_cases e:n=c+1
   ·subst e;rw[if_pos (show 1≤c+1∧c+1≤c+1 by omega),if_neg (show ¬(1≤c+1∧c+1≤c) by omega)]
    simp
   ·rw[if_neg (c:=(c+1==n)=true) (by simp;omega)]
    by_cases e2:1≤n∧n≤c
    ·rw[if_pos (by omega),if_pos e2]
    ·rw[if_neg (by omega),if_neg e2])
  rw[List.length_erase_of_mem hm] at this
  have:=List.length_pos_of_mem hm
  omega
end Cn
end
section
namespace Cn
structure Ct (s:PSt) (t0:Nat) (J:Nat→Nat) (P:Nat) (M:PMc):Prop where
 fine:McFine M
 inv:∃g D N,MI s t0 M J g D N∧psiM s J M g D N≤P
def rnd (d:Nat):Nat→PMc→PMc
 |0,M=>M
 |t+1,M=>(rnd d t M).pick t d
theorem rnd_runs (d:Nat)(M:PMc):∀n,rnd d n M=runs ((List.range n).map fun k=>(k,d)) M
 |0=>rfl
 |n+1=>by
  rw[List.range_succ,List.map_append];unfold runs;rw[List.foldl_append];exact congrArg (fun x:PMc=>x.pick n d) (rnd_runs d M n)
section
variable {s : PSt} {t0 P : Nat} {J : Nat → Nat} {M : PMc} {g : Sh} {D : Nat → Td} {N : Nat → List Nat}
theorem MI.psi4 (h:MI s t0 M J g D N)(hJ:∀k,J k≤4):psiM s J M g D N≤12749:=by
 have h1:=psi_hi (J:=J) (N:=N) (v:=g.ver) (lk:=M.mem.locks.getD (S9 s) PLk.zero) (sn:=M.mem.since) (D:=D) (fun k p e=>(h.rest e).2)
 have h2:=sumS_le (v:=g.ver) (D:=D);have h3:sumR J N D≤16:=by
  have a0:=hJ 0;have a1:=hJ 1;have a2:=hJ 2;have a3:=hJ 3;unfold sumR rem;omega
 have h4:(if(M.mem.locks.getD (S9 s) PLk.zero).held=true then 60 else 149)≤149:=by split<;>omega
 unfold psiM;omega
theorem Ct.len (h:Ct s t0 J P M):M.thr.length=s.threads∧s.threads≤4∧M.s=s:=by
 obtain⟨g,D,N,hi,_⟩:=h.inv;exact⟨hi.threads.symm,by rw[hi.threads];exact hi.four,hi.set⟩
theorem Ct.pick (h:Ct s t0 J P M)(hJ:∀k,J k≤4)(hp:M.picks≤1000000)(i d:Nat)(hi:i<s.threads):Ct s t0 J 12749 (M.pick i d):=by
 obtain⟨g,D,N,hm,_⟩:=h.inv;obtain⟨g',d',ns,h1,_⟩:=mi_pick hm hp (List.getElem?_eq_getElem (by rw[h.len.1];exact hi)) d
 exact⟨h.fine.pick i d,g',_,_,h1,h1.psi4 hJ⟩
theorem Ct.round (h:Ct s t0 J P M)(hp:M.picks+s.threads≤1000000)(hr:M.rests=false)(d:Nat)(hf:McFine (rnd d s.threads M)):∃Q,P=Q+1∧Ct s t0 J Q (rnd d s.threads M):=by
 obtain⟨g,D,N,hm,hP⟩:=h.inv;rw[rnd_runs] at hf ⊢;obtain⟨g',D',N',h',e,hc⟩:=mi_round (l:=(List.range s.threads).map fun k=>(k,d)) hm (by simpa using hp) (by simp) (fun k hk=>⟨(k,d),by simpa using hk,rfl⟩)
 have hlt:=hc.resolve_right (fun ho=>by rw[hm.rests.2 ho] at hr;cases hr)
 exact⟨P-1,by omega,hf,g',D',N',h',by omega⟩
def pre (N:Nat→List Nat):Nat→List Nat
 |0=>[]
 |t+1=>pre N t++N t
theorem pre_more (N:Nat→List Nat)(t:Nat):∀k,∃R,pre N (t+k)=pre N t++R
 |0=>⟨[],by simp⟩
 |k+1=>by
  obtain⟨R,h⟩:=pre_more N t k;exact⟨R++N (t+k),by show pre N (t+k)++N (t+k)=_;rw[h,List.append_assoc]⟩
structure End (J:Nat→Nat) (T:Nat) (M:PMc) (N:Nat→List Nat):Prop where
 word:M.mem.words.getD 9 0=T
 len:9<M.mem.words.length
 told:∀i t,M.thr[i]?=some t→Tolds (N i) t.results∧(N i).length=J i
 nums:∀n,(pre N 4).count n=if 1≤n∧n≤T then 1 else 0
theorem Ct.ended (h:Ct s t0 J P M)(hr:M.rests=true)(hJ0:∀k,s.threads≤k→J k=0):∃N,End J (J 0+J 1+J 2+J 3) M N:=by
 obtain⟨g,D,N,hm,_⟩:=h.inv;obtain⟨q1,q2,q3⟩:=hm.ended (hm.rests.1 hr);have hlen:∀i,(N i).length=J i:=fun i=>by
  by_cases hi:i<M.thr.length
  ·exact(q2 i _ (List.getElem?_eq_getElem hi)).2
  ·rw[(hm.out i (by omega)).1,hJ0 i (by rw[hm.threads];omega)];rfl
 have hc:cur g.H=J 0+J 1+J 2+J 3:=by
  have:=count_len _ _ q3
  rw[←this];simp only[List.length_append,hlen]
 rw[hc] at q1 q3;exact⟨N,q1,by have:=hm.li.words;omega,q2,fun n=>by rw[←q3 n];rfl⟩
theorem End.fresh {T:Nat}(h:End J T M N){t k x:Nat}(ht:t<4)(hx:(N t)[k]?=some x):1≤x∧x≤T∧x∉pre N t++(N t).take k:=by
 obtain⟨R,hR⟩:=pre_more N (t+1) (3-t);rw[show t+1+(3-t)=4 by omega] at hR
 have hk:k<(N t).length:=(List.getElem?_eq_some_iff.1 hx).1;have e:N t=(N t).take k++x::(N t).drop (k+1):=by
  have h1:=List.take_append_drop k (N t);rw[List.drop_eq_getElem_cons hk,(List.getElem?_eq_some_iff.1 hx).2] at h1;exact h1.symm
 have h1:=h.nums x;rw[hR] at h1;rw[show pre N (t+1)=pre N t++N t from rfl] at h1
 have h2:(N t).count x=((N t).take k).count x+(((N t).drop (k+1)).count x+1):=by
  conv=>lhs;rw[e]
  rw[List.count_append,List.count_cons_self]
 rw[List.count_append,List.count_append,h2] at h1;by_cases hb:1≤x∧x≤T
 ·rw[if_pos hb] at h1;refine⟨hb.1,hb.2,fun hm=>?_⟩
  have:=List.count_pos_iff.2 hm
  rw[List.count_append] at this;omega
 ·rw[if_neg hb] at h1;omega
theorem pre_snoc {t k x:Nat}(hx:(N t)[k]?=some x):pre N t++(N t).take (k+1)=(pre N t++(N t).take k)++[x]:=by
 rw[List.append_assoc,List.take_add_one,hx];rfl
theorem Tolds.at:∀{ns:List Nat} {rs:List PRe},Tolds ns rs→∀(k:Nat) (x:Nat),ns[k]?=some x→∃r,rs[k]?=some r∧r.kind=2∧r.slate=textI [.num x]
 | [],_,_,_,_,h=>by simp at h
 |n::ns,r::rs,h,0,x,e=>⟨r,rfl,h.1.1,by rw[h.1.2.2];simp at e;rw[e]⟩
 |n::ns,r::rs,h,k+1,x,e=>by
  obtain⟨r',h1⟩:=Tolds.at h.2 k x (by simpa using e)
  exact⟨r',by simpa using h1.1,h1.2⟩
 |_::_,[],h,_,_,_=>h.elim
end
def mark (T:Nat)(P:List Nat):List Bool:=(List.range (T+1)).map fun x=>decide (x∈P)
theorem mark_nil (T:Nat):mark T []=List.replicate (T+1) false:=by
 unfold mark;simp[List.map_const']
theorem mark_at {T x:Nat}{P:List Nat}(hx:x≤T)(hm:x∉P):(mark T P)[x]?=some false:=by
 unfold mark;rw[List.getElem?_map,List.getElem?_range (by omega)]
 simp[hm]
theorem mark_set {T x:Nat}{P:List Nat}:(mark T P).set x true=mark T (P++[x]):=by
 refine List.ext_getElem? fun k=>?_
 unfold mark;rw[List.getElem?_set];simp only[List.getElem?_map,List.length_map,List.length_range];by_cases hk:k<T+1
 ·rw[List.getElem?_range hk];by_cases e:x=k
  ·subst e;simp[hk]
  ·have e2:k≠x:=fun h=>e h.symm
   simp[e,e2]
 ·rw[List.getElem?_eq_none (by simpa using hk)]
  split
  ·rw[if_neg (by omega)];rfl
  ·rfl
end Cn
end
theorem jobsH_more {ω w:World}{F:HP}{A:Option Addr}{c:Nat}{l:List (List PIns)}(h:Sat ω w (jobsH A c l*F)):∃xs R,Sat ω w (row 32 1 (.slice A l.length c) l.length xs*(R*F)) ∧
  ∀(w':World) (P:HP) A' c' g (p:List PIns),Sat ω w' (row 32 1 (.slice A' (l.length+1) c') (l.length+1) (xs++[.slice (some ⟨g,0,none⟩) p.length p.length])*(prH (some ⟨g,0,none⟩) p.length p*(R*P)))→Sat ω w' (jobsH A' c' (l++[p])*P):=by
 obtain⟨js,h⟩:=h.of_ex;obtain⟨hl,h2⟩:=h.assoc.of_fact;refine⟨jbV js l,jbAll js l,h2.assoc,fun w' P A' c' g p h3=>?_⟩
 obtain⟨e1,e2⟩:=jbV_snoc (some ⟨g,0,none⟩) p.length p js l hl;have e3:(l++[p]).length=l.length+1:=by simp
 refine Sat.to_ex (js++[(some ⟨g,0,none⟩,p.length)]) ?_;refine(Sat.to_fact (by simp[hl]) (h3.perm ?_)).assoc'
 rw[e1,e2,e3];ac_rfl
theorem jj_snoc (B:Option Addr)(d:Nat)(p:List (List PIns)):∀(vs:List (Option Addr×Nat)) (L:List (List (List PIns))),vs.length=L.length→jjV (vs++[(B,d)]) (L++[p])=jjV vs L++[.slice B p.length d]∧jjAll (vs++[(B,d)]) (L++[p])=jjAll vs L*jobsH B d p
 | [],[],_=>⟨rfl,star_comm _ _⟩
 |a::vs,q::L,h=>by
  obtain⟨h1,h2⟩:=jj_snoc B d p vs L (by simpa using h)
  refine⟨?_,?_⟩
  ·show Value.slice a.1 q.length a.2::jjV (vs++[(B,d)]) (L++[p])=_
   rw[h1];rfl
  ·show jobsH a.1 a.2 q*jjAll (vs++[(B,d)]) (L++[p])=(jobsH a.1 a.2 q*jjAll vs L)*jobsH B d p
   rw[h2];ac_rfl
theorem jj_more {ω w:World}{P:HP}{vs:List (Option Addr×Nat)}{L:List (List (List PIns))}(hl:vs.length=L.length){A B:Option Addr}{c d:Nat}{p:List (List PIns)}
  (h:Sat ω w (row 29 1 (.slice A (L.length+1) c) (L.length+1) (jjV vs L++[.slice B p.length d])*(jjAll vs L*(jobsH B d p*P)))):Sat ω w (jjX A c (vs++[(B,d)]) (L++[p])*P):=by
 obtain⟨e1,e2⟩:=jj_snoc B d p vs L hl;refine h.perm ?_;unfold jjX;rw[e1,e2,show(L++[p]).length=L.length+1 by simp]
 ac_rfl
theorem jj_nil {ω w:World}{F:HP}(h:Sat ω w F):Sat ω w (jjX none 0 [] []*F):=by
 have h1:=h.nil 29 1;refine h1.perm ?_;show _=(row 29 1 (.slice none 0 0) 0 []*emp)*F
 rw[star_emp]
def nsC (ks:List Nat)(i:Nat):List Nat:=(ks.take i).map (· % 5)
theorem nsC_len (ks:List Nat)(i:Nat)(h:i≤ks.length):(nsC ks i).length=i:=by
 unfold nsC;rw[List.length_map,List.length_take];omega
theorem nsC_succ (ks:List Nat)(i:Nat)(h:i<ks.length):nsC ks (i+1)=nsC ks i++[ks.getD i 0%5]:=by
 unfold nsC;rw[List.take_add_one,List.getElem?_eq_getElem h,List.map_append,gD,List.getElem?_eq_getElem h];rfl
theorem adds_fine9:JobFine (addsP 9):=⟨by decide +kernel,_,addsP_fine 9 (by omega)⟩
theorem jobsC_snoc (ns:List Nat)(n:Nat):Cn.jobsC (ns++[n])=Cn.jobsC ns++[List.replicate n (addsP 9)]:=by
 unfold Cn.jobsC;rw[List.map_append];rfl
theorem jobsC_len (ns:List Nat):(Cn.jobsC ns).length=ns.length:=List.length_map _
theorem nsC_at (ks:List Nat)(i t:Nat)(h:t<i)(hi:i≤ks.length):(nsC ks i).getD t 0=ks.getD t 0%5:=by
 unfold nsC;rw[gD,List.getElem?_map,List.getElem?_take,if_pos h,List.getElem?_eq_getElem (by omega),gD,List.getElem?_eq_getElem (by omega)]
 rfl
theorem nsC_small (ks:List Nat)(i t:Nat):(nsC ks i).getD t 0≤4:=by
 unfold nsC;rw[gD,List.getElem?_map];cases ((ks.take i)[t]?) with
 |none=>exact Nat.zero_le _
 |some v=>show v%5≤4;omega
theorem mod_sum:∀l:List Nat,(l.map (· % 5)).sum≤4*l.length
 | []=>Nat.le_refl _
 |x::l=>by
  have:=mod_sum l
  simp only[List.map_cons,List.sum_cons,List.length_cons];omega
theorem nsC_sum (ks:List Nat)(i:Nat):(nsC ks i).sum≤4*i:=by
 have h1:=mod_sum (ks.take i);have h2:(ks.take i).length≤i:=by rw[List.length_take];omega
 unfold nsC;omega
theorem sum4:∀l:List Nat,l.length≤4→l.getD 0 0+l.getD 1 0+l.getD 2 0+l.getD 3 0=l.sum
 | [],_=>rfl
 | [a],_=>by simp
 | [a,b],_=>by simp
 | [a,b,c],_=>by simp[Nat.add_assoc]
 | [a,b,c,d],_=>by simp[Nat.add_assoc]
 |_::_::_::_::_::_,h=>by simp at h
theorem ct_new (r:PSt)(hw:1≤r.writes)(hf:6≤r.fuel)(hst:r.start≤1000)(ks:List Nat)(i:Nat)(hi4:i≤4)(hi:i≤ks.length):
  ∃s t0 J,Cn.Ct s t0 J 12749 (PMc.new r (Cn.jobsC (nsC ks i)))∧(∀k,J k≤4)∧(∀k,s.threads≤k→J k=0)∧(∀t,t<i→J t=ks.getD t 0%5)∧J 0+J 1+J 2+J 3=(nsC ks i).sum∧i≤s.threads∧1≤s.threads:=by
 have hl:=nsC_len ks i hi;obtain⟨g,D,hm,_⟩:=Cn.mi_new r (nsC ks i) hw hf hst (by omega)
 have hJ:∀k,min 6 ((nsC ks i).getD k 0)=(nsC ks i).getD k 0:=fun k=>Nat.min_eq_right (by have:=nsC_small ks i k;omega)
 have hJ4:∀k,min 6 ((nsC ks i).getD k 0)≤4:=fun k=>by rw[hJ];exact nsC_small ks i k
 have hT:i≤(PMc.new r (Cn.jobsC (nsC ks i))).s.threads:=by
  show i≤max 1 (min ((Cn.jobsC (nsC ks i)).take 4).length 4)
  rw[List.length_take,jobsC_len,hl];omega
 refine⟨_,_,fun k=>min 6 ((nsC ks i).getD k 0),⟨McFine.new r _ fun l hl p hp=>?_,g,D,_,hm,hm.psi4 hJ4⟩,hJ4,fun k hk=>?_,fun t ht=>?_,?_,hT,Nat.le_max_left 1 _⟩
 ·unfold Cn.jobsC at hl;obtain⟨n,_,rfl⟩:=List.mem_map.1 hl;rw[(List.mem_replicate.1 hp).2];exact adds_fine9
 ·show min 6 ((nsC ks i).getD k 0)=0
  rw[gD,List.getElem?_eq_none (by omega)]
  rfl
 ·show min 6 ((nsC ks i).getD t 0)=_
  exact(hJ t).trans (nsC_at ks i t ht hi)
 ·show min 6 _+min 6 _+min 6 _+min 6 _=_
  rw[hJ,hJ,hJ,hJ];exact sum4 _ (by omega)
theorem rep_succ (n:Nat)(p:List PIns):List.replicate (n+1) p=List.replicate n p++[p]:=by
 rw[List.replicate_succ']
theorem jobsC_short (ks:List Nat)(i:Nat):∀l∈Cn.jobsC (nsC ks i),l.length≤6∧∀p∈l,p.length≤40∧okP p=true:=by
 intro l hl;unfold Cn.jobsC nsC at hl;obtain⟨n,hn,rfl⟩:=List.mem_map.1 hl;obtain⟨x,_,rfl⟩:=List.mem_map.1 hn;refine⟨by rw[List.length_replicate];omega,fun p hp=>?_⟩
 rw[(List.mem_replicate.1 hp).2];exact⟨by decide,adds_fine9.1⟩
def restOf (W:World):HP:=fun h=>h=fun k=>if k=0 then none else W.heap[k]?
theorem pow_whole [Inhabited PowO]{W:World}(h:W.heap[0]?=some (default:PowO).1):powH*restOf W=wholeOf W:=by
 refine HP.ext fun x=>⟨?_,fun hx=>?_⟩
 ·rintro⟨a,b,hd,rfl,rfl,rfl⟩;show _=_
  funext k;by_cases e:k=0
  ·subst e;simp[h]
  ·simp[e]
 ·rw[show x=_ from hx]
  refine⟨_,_,fun k=>?_,?_,rfl,rfl⟩
  ·by_cases e:k=0
   ·exact .inr (by simp[e])
   ·exact .inl (by simp[e])
  ·funext k;by_cases e:k=0
   ·subst e;simp[h]
   ·simp[e]
def KsIn (AK:Option Addr)(gk ok m:Nat)(ks:List Nat)(w':World):Prop:=∀i,i<m→AK=some ⟨gk,ok,none⟩∧gk<w'.heap.size∧w'.cell? ⟨gk,ok+i,none⟩=some (.int .u8 ((ks.getD i 0:Nat):Int))
theorem rnd_fine {M:PMc}(d:Nat)(h:McFine M):∀t,McFine (Cn.rnd d t M)∧(Cn.rnd d t M).picks≤M.picks+t∧(Cn.rnd d t M).thr.length=M.thr.length
 |0=>⟨h,Nat.le_refl _,rfl⟩
 |t+1=>by
  obtain⟨h1,h2,h3⟩:=rnd_fine d h t;have h4:=h1.pick t d;refine⟨h4,?_,?_⟩
  ·have:=pick_picks (Cn.rnd d t M) t d
   show((Cn.rnd d t M).pick t d).picks≤_
   omega
  ·show((Cn.rnd d t M).pick t d).thr.length=_
   rw[h4.len,pick_s,←h1.len,h3]
def Rest (s:PSt)(t0:Nat)(J:Nat→Nat)(M:PMc):Prop:=∃P,Cn.Ct s t0 J P M∧M.rests=true
theorem settled_any [Inhabited PowO](ω w:World)(F:HP)(b:Nat)(s:PSt)(t0:Nat)(J:Nat→Nat)(M:PMc)(hC:Cn.Ct s t0 J 12749 M)(hp:M.picks≤2000)(ds:List Nat)(AD:Option Addr)(gd od dm cd:Nat)(hd8:∀x∈ds,x<256)
  (HD:Hid (∀w' X,Sat ω w' (X*(powH*F))→KsIn AD gd od dm ds w')) (h:Sat ω w (mcH b M*(powH*F))):
  Calls Tryz.prog 17 #[.pointer (some ⟨b,0,none⟩),.slice AD dm cd] w fun e w'=>e=.returned (.bool true)∧∃M',Hid (Rest s t0 J M')∧Hid (Sat ω w' (mcH b M'*(powH*F))):=by
 have H0:=h_ h;have HC0:Hid (Cn.Ct s t0 J 12749 M∧M.picks≤2000):=h_ ⟨hC,hp⟩;have H8:Hid (∀i,ds.getD i 0<256):=h_ (fun i=>by
  rw[gD];cases e:ds[i]? with
  |none=>decide
  |some v=>exact hd8 v (List.mem_of_getElem? e))
 obtain⟨T,hT⟩:∃T:Nat,T=200000:=⟨_,rfl⟩;have HT:=h_ hT;obtain⟨C,hCC⟩:∃C:Nat,C=12749:=⟨_,rfl⟩;have HCC:=h_ hCC;rw[←hCC] at HC0;go_enter Tryz.func17,Tryz.ntmps17;go_wp2_with fail;go_loopw [5] (fun c wr=>∃(r P:Nat) (M1:PMc),c=.int .i64 r∧Hid (Cn.Ct s t0 J P M1∧P+r≤C∧M1.picks≤2000+4*r)∧Hid (Sat ω wr (mcH b M1*(powH*F)))) (fun c _=>T-(intOf c).toNat)
 case atStart=>exact⟨0,C,M,rfl,h_ ⟨HC0.o.1,Nat.le_refl _,HC0.o.2⟩,H0⟩
 case round =>
  obtain⟨r,P,M1,rfl,HC1,HS1⟩:=hrel;have hr:r≤12749:=by have h1:=HC1.o.2.1;rw[HCC.o] at h1;omega
  have HR2:=h_ hr;have hr3:(r:Int)≤100000:=by omega
  have HLE:=h_ HC1.o.1.len;have dr:(decide ((r:Int)<200000))=true:=by simp;omega
  have HRE:=h_ (mc_rests ω _ _ b M1 HS1.o (by have h9:=HLE.o;omega))
  obtain⟨q,hq⟩:∃q,M1.rests=q:=⟨_,rfl⟩;rw[hq] at HRE;cases q
  ·have HN:Hid (M1.rests=false):=h_ hq;have HTH:Hid (∀w1 M2,M2.thr.length=M1.thr.length→Sat ω w1 (mcH b M2*(powH*F))→Calls Tryz.prog 31 #[.pointer (some ⟨b,0,none⟩)] w1 fun e w'=>e=.returned (.int .i64 s.threads)∧w1=w'):=h_ (fun w1 M2 e1 h1=>by
    refine(mc_threads ω w1 _ b M2 h1).mono ?_;rintro e w2 ⟨rfl,rfl⟩;rw[e1,HLE.o.1];exact⟨rfl,rfl⟩)
   obtain⟨K,hK⟩:∃K,s.threads=K:=⟨_,rfl⟩;rw[hK] at HTH;have HK:Hid (s.threads=K∧K≤4):=h_ ⟨hK,by rw[←hK];exact HLE.o.2.1⟩
   have HPK:Hid (∀w1 (t:Nat) (d:Nat),d<256→t<K→Sat ω w1 (mcH b (Cn.rnd d t M1)*(powH*F))→Calls Tryz.prog 13 #[.pointer (some ⟨b,0,none⟩),.int .i64 t,.int .u8 d] w1 fun e w'=>e=.returned (.int .i64 0)∧Hid (Sat ω w' (mcH b (Cn.rnd d (t+1) M1)*(powH*F)))):=h_ (fun w1 t d hd ht h1=>by
    obtain⟨f1,f2,f3⟩:=rnd_fine d HC1.o.1.fine t
    have:=HC1.o.2.2
    have:=HK.o
    have:=HR2.o
    refine(mc_pick ω w1 F b _ f1 (by omega) t d (by rw[f3,HLE.o.1];omega) hd h1).mono ?_
    rintro e w2 ⟨rfl,h2⟩;exact⟨rfl,h_ h2⟩)
   have HLN:Hid (∀d t,(Cn.rnd d t M1).thr.length=M1.thr.length):=h_ (fun d t=>(rnd_fine d HC1.o.1.fine t).2.2)
   have HNX:Hid (∀d,∃Q,P=Q+1∧Cn.Ct s t0 J Q (Cn.rnd d K M1)∧(Cn.rnd d K M1).picks≤2000+4*(r+1)):=h_ (fun d=>by
    have h1:=rnd_fine d HC1.o.1.fine K;have h2:=HC1.o.2.2;have h3:=HK.o;have h9:=HR2.o;obtain⟨Q,e,h4⟩:=HC1.o.1.round (by omega) HN.o d (by rw[HK.o.1];exact h1.1)
    rw[HK.o.1] at h4;exact⟨Q,e,h4,by omega⟩)
   have HPr:=h_ HC1.o.2.1;have HKN:=h_ (fun w' X hh=>HD.o w' X hh (r%dm))
   have HrD:Hid ((r:Int).tmod (dm:Int)=((r%dm:Nat):Int)):=h_ (Int.ofNat_tmod r dm).symm;go_upto_if 16 with(go_at_call 30;refine(HRE.o).mono ?_;rintro e w3 ⟨rfl,rfl⟩)
   obtain⟨q,hq⟩:∃q,decide (0<dm)=q:=⟨_,rfl⟩;rw[hq];have HQ:=h_ hq;go_cut [6] from 17 to 23 (fun c wx=>∃d:Nat,c=.int .u8 d∧d<256∧Hid (Sat ω wx (mcH b M1*(powH*F))))
   case first =>
    cases q
    ·go_wp2_with fail;go_meet;exact⟨0,rfl,by omega,HS1⟩
    ·have hd0:0<dm:=by simpa using HQ.o
     obtain⟨hA,hgd,hcd⟩:=HKN.o _ _ HS1.o (Nat.mod_lt _ hd0);have hx8:=H8.o (r%dm);have hrm:=HrD.o;have hlt:((r%dm:Nat):Int)<(dm:Int):=by have:=Nat.mod_lt r hd0;omega
     have hne:((dm:Int)==0)=false:=by simp;omega
     generalize r%dm=q1 at *
     generalize ds.getD q1 0=x at *
     subst hA;go_wp2_with fail;go_meet;exact⟨x,rfl,hx8,HS1⟩
   case rest =>
    obtain⟨d,rfl,hd8,HS2⟩:=hcut;go_wp2_with fail;go_loopw [7] (fun c wr=>∃t:Nat,c=.int .i64 t∧t≤K∧Hid (Sat ω wr (mcH b (Cn.rnd d t M1)*(powH*F)))) (fun c _=>K-(intOf c).toNat)
    case atStart=>exact⟨0,rfl,Nat.zero_le _,HS2⟩
    case round =>
     obtain⟨t,rfl,ht,HS3⟩:=hrel;have hK4:K≤4:=HK.o.2;have HT1:=h_ (HTH.o _ _ (HLN.o d t) HS3.o);by_cases hlt:t<K
     ·have dk:(decide ((t:Int)<(K:Int)))=true:=by simp;omega
      have HP1:=h_ (HPK.o _ t d hd8 hlt HS3.o);go_wp2_with (first
       |(go_at_call 31;refine(HT1.o).mono ?_;rintro e w4 ⟨rfl,rfl⟩)
       |(go_at_call 13;refine(HP1.o).mono ?_;rintro e w5 ⟨rfl,H5⟩))
      exact⟨⟨t+1,by go_num,by omega,H5⟩,by simp[intOf];omega⟩
     ·have dk:(decide ((t:Int)<(K:Int)))=false:=by simp;omega
      obtain⟨Q,eP,h4,h5⟩:=HNX.o d;have hPr:=HPr.o;have htK:t=K:=by omega
      subst htK;have HX:Hid (Cn.Ct s t0 J Q (Cn.rnd d t M1)∧Q+(r+1)≤C∧(Cn.rnd d t M1).picks≤2000+4*(r+1)):=h_ ⟨h4,by rw[eP] at hPr;omega,h5⟩
      have hms:Hid (T-(r+1)<T-r):=h_ (by have h1:=HT.o;have h2:=HR2.o;omega)
      go_wp2_with (go_at_call 31;refine(HT1.o).mono ?_;rintro e w4 ⟨rfl,rfl⟩);exact⟨⟨r+1,Q,_,by go_num,HX,HS3⟩,by have h9:=hms.out;simp[intOf];omega⟩
  ·have HN:Hid (Rest s t0 J M1):=h_ ⟨P,HC1.o.1,hq⟩;go_wp2_with (go_at_call 30;refine(HRE.o).mono ?_;rintro e w3 ⟨rfl,rfl⟩);go_ret;exact⟨rfl,M1,HN,HS1⟩
def digs (x:Nat):ByteArray:=⟨(textI [.num x]).toArray⟩
def NumPost (x:Int)(w:World)(e:Ending)(w':World):Prop:=e=.returned (.tuple #[.int .u64 x,.bool true])∧w'=w
theorem num_div (n c:Nat)(k:Nat)(h1:48≤c)(h2:10*k+c≤n+48)(hn:n≤16):¬IntKind.u64.wrap (((n:Int)-((c:Int)-48)).tdiv 10)<(k:Int):=by
 rw[Int.tdiv_eq_ediv_of_nonneg (by omega),IntKind.wrap_u64]
 omega
theorem num_one (n:Nat)(b:UInt8)(c:Nat)(hc:b.toNat=c)(h1:49≤c)(h2:c≤57)(h3:c≤n+48)(hn:n≤16)(w:World):Calls Tryz.prog 20 #[.string ⟨#[b]⟩,.int .u64 n] w (NumPost ((c:Int)-48) w):=by
 have h0:∀hh,((⟨#[b]⟩:ByteArray)[0]'hh).toNat=c:=fun _=>hc
 have e1:((c:Int)==48)=false:=by simp;omega
 have w1:IntKind.u64.wrap ((n:Int)-((c:Int)-48))=(n:Int)-((c:Int)-48):=by rw[IntKind.wrap_u64];omega
 have w2:¬IntKind.u64.wrap (((n:Int)-((c:Int)-48)).tdiv 10)<0:=num_div n c 0 (by omega) (by omega) hn
 have w3:¬(n:Int)<(c:Int)-48:=by omega
 have w5:decide ((c:Int)<48)=false:=by simp;omega
 have w6:decide (57<(c:Int))=false:=by simp;omega
 clear hc hn;go_enter Tryz.func20,Tryz.ntmps20;go_wp2;refine wp_loop_rounds 2 ?_;repeat any_goals (rw[rounds_succ];go_wp2)
 go_ret2;exact⟨rfl,rfl⟩
theorem num_two (n:Nat)(b:UInt8)(c:Nat)(hc:b.toNat=c)(h1:48≤c)(h2:c≤57)(h3:c+10≤n+48)(hn:n≤16)(w:World):Calls Tryz.prog 20 #[.string ⟨#[49,b]⟩,.int .u64 n] w (NumPost (10+((c:Int)-48)) w):=by
 have h8:∀hh,((⟨#[49,b]⟩:ByteArray)[0]'hh).toNat=49:=fun _=>rfl
 have h0:∀hh,((⟨#[49,b]⟩:ByteArray)[1]'hh).toNat=c:=fun _=>hc
 have w0:IntKind.u64.wrap ((n:Int)-1)=(n:Int)-1:=by rw[IntKind.wrap_u64];omega
 have w1:IntKind.u64.wrap ((n:Int)-((c:Int)-48))=(n:Int)-((c:Int)-48):=by rw[IntKind.wrap_u64];omega
 have w2:¬IntKind.u64.wrap (((n:Int)-((c:Int)-48)).tdiv 10)<1:=num_div n c 1 (by omega) (by omega) hn
 have w7:¬IntKind.u64.wrap (((n:Int)-1).tdiv 10)<0:=num_div n 49 0 (by omega) (by omega) hn
 have w3:¬(n:Int)<(c:Int)-48:=by omega
 have w4:¬(n:Int)<1:=by omega
 have w5:decide ((c:Int)<48)=false:=by simp;omega
 have w6:decide (57<(c:Int))=false:=by simp;omega
 have w8:IntKind.u64.wrap (10+((c:Int)-48))=10+((c:Int)-48):=by rw[IntKind.wrap_u64];omega
 clear hc hn;go_enter Tryz.func20,Tryz.ntmps20;go_wp2;refine wp_loop_rounds 3 ?_;repeat any_goals (rw[rounds_succ];go_wp2)
 go_ret2;exact⟨rfl,rfl⟩
theorem digs_one:∀x:Fin 17,if 1≤x.1∧x.1≤9 then digs x=⟨#[UInt8.ofNat (48+x.1)]⟩ else if x.1=0 then True else digs x=⟨#[49,UInt8.ofNat (38+x.1)]⟩:=by decide +kernel
theorem number_at (n:Nat)(hn:n≤16)(x:Nat)(h1:1≤x)(hx:x≤n)(w:World):Calls Tryz.prog 20 #[.string (digs x),.int .u64 n] w (NumPost x w):=by
 have e:=digs_one ⟨x,by omega⟩
 by_cases h:x≤9
 ·rw[if_pos ⟨h1,h⟩] at e;rw[show digs x=_ from e]
  have e2:=num_one n (UInt8.ofNat (48+x)) (48+x) (UInt8.toNat_ofNat_of_lt' (by show _<256;omega)) (by omega) (by omega) (by omega) hn w
  rw[show(((48+x:Nat):Int)-48)=(x:Int) by omega] at e2
  exact e2
 ·rw[if_neg (by show ¬(1≤x∧x≤9);omega),if_neg (by show ¬x=0;omega)] at e
  rw[show digs x=_ from e]
  have e2:=num_two n (UInt8.ofNat (38+x)) (38+x) (UInt8.toNat_ofNat_of_lt' (by show _<256;omega)) (by omega) (by omega) (by omega) hn w
  rw[show(10+(((38+x:Nat):Int)-48))=(x:Int) by omega] at e2
  exact e2
theorem reV_at:∀(rs:List PRe) (k:Nat) (r:PRe),rs[k]?=some r→(rs.flatMap reV)[k*4]?=some (.int .i64 r.kind)∧(rs.flatMap reV)[k*4+2]?=some (.string ⟨r.slate.toArray⟩)
 | [],k,r,h=>by simp at h
 |y::l,0,r,h=>by
  simp only[List.getElem?_cons_zero,Option.some.injEq] at h;subst h;exact⟨rfl,rfl⟩
 |y::l,k+1,r,h=>by
  obtain⟨h1,h2⟩:=reV_at l k r (by simpa using h)
  have e:∀j,((y::l).flatMap reV)[(k+1)*4+j]?=(l.flatMap reV)[k*4+j]?:=fun j=>by
   show(reV y++l.flatMap reV)[_]?=_
   rw[List.getElem?_append_right (by show 4≤_;omega)]
   congr 1
   show(k+1)*4+j-4=_
   omega
  exact⟨(e 0).trans h1,(e 2).trans h2⟩
theorem made_bools (n:Nat):madeCells #[Value.bool false] n=((List.replicate n false).map Value.bool).toArray:=by
 apply Array.ext_getElem?;intro k;rcases Nat.lt_or_ge k n with h|h
 ·simp[madeCells,h,Nat.mod_one]
 ·simp[madeCells,h]
theorem infoBool_:(Tryz.prog.info? 4).map (fun i=>(i.zero,i.size,i.bytes))=some (some (.bool false),1,1):=by kernel_rfl
def markH (g S:Nat)(P:List Nat):HP:=bk g 4 ((Cn.mark S P).map Value.bool).toArray
theorem markH_at {ω w:World}{F:HP}{g S x:Nat}{P:List Nat}(h:Sat ω w (markH g S P*F))(hx:x≤S)(hm:x∉P):g<w.heap.size∧(∀k,w.frozen? ⟨g,k,none⟩=false)∧w.cell? ⟨g,x,none⟩=some (.bool false)∧Sat ω (w.setCell ⟨g,x,none⟩ (.bool true)) (markH g S (P++[x])*F):=by
 have hb:=Sat.blk h;refine⟨hb.lt,hb.frozen,?_,h.put x (.bool true) ?_⟩
 ·rw[hb.cell];simp[Cn.mark_at hx hm]
 ·rw[←Cn.mark_set];simp[List.map_set]
theorem mark_new {ω w:World}{F:HP}(S T:Nat)(e:S+1=T)(h:Sat ω w F):Sat ω (w.alloc (.cells (madeCells #[.bool false] T) 4)) (markH w.heap.size S []*F):=by
 have h1:=h.new (madeCells #[.bool false] T) 4;unfold markH;rw[Cn.mark_nil,e,←made_bools];exact h1
theorem row_max {ω w:World}{F:HP}{e:TypeId}{s n c:Nat}{A:Option Addr}{xs:List Value}(h:Sat ω w (row e s (.slice A n c) n xs*F)):n≤maxLen:=by
 rcases h.cases with⟨h1,h2,h3,_⟩|⟨g,cap,cur,h2,h3,h4,h5,h6,h7,h8⟩
 ·omega
 ·omega
theorem jobsC_getD (ns:List Nat)(t:Nat):(Cn.jobsC ns).getD t []=List.replicate (ns.getD t 0) (addsP 9):=by
 unfold Cn.jobsC;rw[gD,List.getElem?_map,gD];cases ns[t]?<;>rfl
def PkS (g o:Nat)(T:Int)(D:Nat)(Z:Int)(w:World):Prop:=g<w.heap.size∧w.cell? ⟨g,o,none⟩=some (.int .i64 T)∧w.cell? ⟨g,o+1,none⟩=some (.int .u8 D)∧w.cell? ⟨g,o+2,none⟩=some (.int .i64 Z)
def PsIn (AP:Option Addr)(gp op n:Nat)(fT:Nat→Int)(fD:Nat→Nat)(fZ:Nat→Int)(w':World):Prop:=∀i,i<n→AP=some ⟨gp,op,none⟩∧gp<w'.heap.size∧w'.cell? ⟨gp,op+i*3,none⟩=some (.int .i64 (fT i))∧w'.cell? ⟨gp,op+i*3+1,none⟩=some (.int .u8 (fD i:Int))∧w'.cell? ⟨gp,op+i*3+2,none⟩=some (.int .i64 (fZ i))
theorem infoJobs_:(Tryz.prog.info? 29).map (fun i=>(i.zero,i.size,i.bytes))=some (some (.slice none 0 0),1,24):=by kernel_rfl
def MadeOf (s:PSt)(t0:Nat)(J:Nat→Nat)(ks:List Nat)(i:Nat)(M:PMc):Prop:=Cn.Ct s t0 J 12749 M∧M.picks=0∧(∀k,J k≤4)∧(∀k,s.threads≤k→J k=0)∧(∀t,t<i→J t=ks.getD t 0%5)∧J 0+J 1+J 2+J 3=(nsC ks i).sum∧i≤s.threads∧1≤s.threads
theorem counter_any [Inhabited PowO](ω w:World)(F:HP)(h:Sat ω w (powH*F))(a0 a1 a2 a3 a4 a5:Int)(a6:Nat)(ks:List Nat)(AK:Option Addr)(gk ok m ck:Nat)(hks:ks.length=m)(hk8:∀x∈ks,x<256)
  (HK:Hid (∀w' X,Sat ω w' (X*(powH*F))→KsIn AK gk ok m ks w')) (AP:Option Addr) (gp op n cp:Nat) (fT:Nat→Int) (fD:Nat→Nat) (fZ:Nat→Int) (hfD:∀i,i<n→fD i<256)
  (HPK:Hid (∀w' X,Sat ω w' (X*(powH*F))→PsIn AP gp op n fT fD fZ w')) (ds:List Nat) (AD:Option Addr) (gd od dm cd:Nat) (hds:ds.length=dm) (hd8:∀x∈ds,x<256)
  (HD:Hid (∀w' X,Sat ω w' (X*(powH*F))→KsIn AD gd od dm ds w')):
  Calls Tryz.prog 4 #[.agg #[.int .i64 a0,.int .i64 a1,.int .i64 a2,.int .i64 a3,.int .i64 a4,.int .i64 a5,.int .u64 a6],.slice AK m ck,.slice AP n cp,.slice AD dm cd] w fun e w'=>e=.returned (.bool true)∧Sat ω w' (powH*F):=by
 obtain⟨N,hN⟩:∃N,w.heap.size=N:=⟨_,rfl⟩;have HX:Hid (Sat ω (w.alloc (.cells #[.int .i64 a0,.int .i64 a1,.int .i64 a2,.int .i64 a3,.int .i64 a4,.int .i64 a5,.int .u64 a6] 24)) (bk N 24 #[.int .i64 a0,.int .i64 a1,.int .i64 a2,.int .i64 a3,.int .i64 a4,.int .i64 a5,.int .u64 a6]*(powH*F))):=h_ (by rw[←hN];exact h.new _ _)
 obtain⟨BX,hBX⟩:∃BX:HP,BX=bk N 24 #[.int .i64 a0,.int .i64 a1,.int .i64 a2,.int .i64 a3,.int .i64 a4,.int .i64 a5,.int .u64 a6]:=⟨_,rfl⟩;have HAW:Hid (Calls Tryz.prog 8 #[] (w.alloc (.cells #[.int .i64 a0,.int .i64 a1,.int .i64 a2,.int .i64 a3,.int .i64 a4,.int .i64 a5,.int .u64 a6] 24)) fun e w'=>e=.returned (.bool true)∧Sat ω w' (powH*(BX*F))):=h_ (awake_any ω _ _ (by rw[hBX];exact HX.o.swap))
 have HON:Hid (∀B' d' e',∀u∈([Value.slice B' d' e']:List Value),u.oneCell'=true):=h_ (by intro B' d' e' u hu;simp at hu;subst hu;rfl)
 have HRD:Hid (∀(w1:World) ty B' d' e',Reads (w1.alloc (.cells #[.slice B' d' e'] ty)) (w1.heap.size+1) 1 (some ⟨w1.heap.size,0,none⟩) 1 [.slice B' d' e']):=h_ (fun w1 ty B' d' e'=>by
  have h9:=Reads.of_blk (size:=1) (n:=1) (Blk.new w1 ty #[.slice B' d' e']) rfl;rw[World.size_alloc] at h9;exact h9)
 obtain⟨i0,hi0,hz⟩:=Option.map_eq_some_iff.1 infoProg_;simp only[Prod.mk.injEq] at hz;obtain⟨hz0,hz1,hz2⟩:=hz;have HI:=h_ hi0;have HZ0:=h_ hz0;have HZ1:=h_ hz1;have HZ2:=h_ hz2;obtain⟨j0,hj0,hy⟩:=Option.map_eq_some_iff.1 infoJobs_;simp only[Prod.mk.injEq] at hy;obtain⟨hy0,hy1,hy2⟩:=hy;have HJ:=h_ hj0;have HY0:=h_ hy0;have HY1:=h_ hy1;have HY2:=h_ hy2;have HKL:=h_ hks;have HDL:=h_ hds;go_enter Tryz.func4,Tryz.ntmps4;go_upto_block 0 with(go_at_call 8;refine(HAW.o).mono ?_;rintro e w1 ⟨rfl,h1⟩;have H1:=h_ h1)
 go_cut [9,10,11] (fun l nn c wx=>∃(i:Nat) (vs:List (Option Addr×Nat)) (A:Option Addr) (cc:Nat),i≤m∧i≤4∧vs.length=i∧l=.slice A i cc∧nn=.int .i64 ((nsC ks i).sum:Int)∧Hid (Sat ω wx (jjX A cc vs (Cn.jobsC (nsC ks i))*(BX*(powH*F)))))
 case first =>
  go_wp2_with fail;go_loopw [9,10,11] (fun l nn c wr=>∃(i:Nat) (vs:List (Option Addr×Nat)) (A:Option Addr) (cc:Nat),i≤m∧i≤4∧vs.length=i∧c=.int .i64 i∧l=.slice A i cc∧nn=.int .i64 ((nsC ks i).sum:Int)∧Hid (Sat ω wr (jjX A cc vs (Cn.jobsC (nsC ks i))*(BX*(powH*F))))) (fun _ _ c _=>4-(intOf c).toNat)
  case atStart=>exact⟨0,[],none,0,Nat.zero_le _,Nat.zero_le _,rfl,rfl,rfl,rfl,h_ (by have h1:=jj_nil H1.o;exact h1.perm (by show _*_=jjX none 0 [] (Cn.jobsC (nsC ks 0))*_;rw[show Cn.jobsC (nsC ks 0)=[] from rfl];ac_rfl))⟩
  case round =>
   obtain⟨i,vs,A,cc,him,hi4,hvs,rfl,rfl,rfl,HS1⟩:=hrel;by_cases hlt:i<m
   ·by_cases h4:i<4
    ·have d1:(decide ((i:Int)<(m:Int)))=true:=by simp;omega
     have d2:(decide ((i:Int)<4))=true:=by simp;omega
     obtain⟨hKA,_⟩:=HK.o _ _ (HS1.o.perm (by ac_rfl:_=(jjX A cc vs (Cn.jobsC (nsC ks i))*BX)*(powH*F))) i hlt
     subst hKA;have HKC:=h_ (fun w' X hh=>(HK.o w' X hh i hlt).2)
     obtain⟨x,hx⟩:∃x,ks.getD i 0=x:=⟨_,rfl⟩;rw[hx] at HKC;have hx8:x<256:=by rw[←hx,gD,List.getElem?_eq_getElem (by rw[HKL.o];exact hlt)];exact hk8 _ (List.getElem_mem _)
     obtain⟨q,hq⟩:∃q,x%5=q:=⟨_,rfl⟩;obtain⟨L,hL⟩:∃L,Cn.jobsC (nsC ks i)=L:=⟨_,rfl⟩;obtain⟨S,hS⟩:∃S,(nsC ks i).sum=S:=⟨_,rfl⟩;have hLL:L.length=i:=by rw[←hL,jobsC_len];exact nsC_len ks i (by rw[HKL.o];omega)
     have HNX:Hid (nsC ks (i+1)=nsC ks i++[q]):=h_ (by rw[nsC_succ ks i (by rw[HKL.o];exact hlt),hx,hq])
     have HLX:Hid (Cn.jobsC (nsC ks (i+1))=L++[List.replicate q (addsP 9)]∧(nsC ks (i+1)).sum=S+q):=h_ (by rw[HNX.o,jobsC_snoc,hL,List.sum_append,hS];exact⟨rfl,by simp⟩)
     have HLN:=h_ hLL;have HVN:=h_ hvs;have HQ4:Hid (q≤4∧(x:Int).tmod 5=(q:Int)):=h_ ⟨by omega,by rw[←hq];exact(Int.ofNat_tmod x 5).symm⟩
     have hS16:S≤16:=by rw[←hS];have:=nsC_sum ks i;omega
     rw[hL] at HS1;rw[hS];go_wp2_with fail;go_loopw [10,12,13] (fun nn row c wr=>∃(k:Nat) (B:Option Addr) (d:Nat),k≤q∧nn=.int .i64 ((S+k:Nat):Int)∧row=.slice B k d∧c=.int .i64 k∧Hid (Sat ω wr (jobsH B d (List.replicate k (addsP 9))*(jjX A cc vs L*(BX*(powH*F)))))) (fun _ _ c _=>q-(intOf c).toNat)
     case atStart=>exact⟨0,none,0,Nat.zero_le _,rfl,rfl,rfl,h_ (jobsH_nil HS1.o)⟩
     case round =>
      obtain⟨k,B,d,hk,rfl,rfl,rfl,HS2⟩:=hrel;obtain⟨hgk,hkc⟩:=HKC.o _ _ (HS2.o.perm (by ac_rfl:_=(jobsH B d (List.replicate k (addsP 9))*(jjX A cc vs L*BX))*(powH*F)))
      have hxq:=HQ4.o.2;have hq4:=HQ4.o.1;by_cases hkq:k<q
      ·have d3:(decide ((k:Int)<(q:Int)))=true:=by simp;omega
       obtain⟨xs,R,q1,q2⟩:=jobsH_more HS2.o;rw[List.length_replicate] at q1 q2;obtain⟨p,hp⟩:∃p,addsP 9=p:=⟨_,rfl⟩;rw[hp] at HS2 q2;have HAD:Hid (∀w1 G,Sat ω w1 G→Calls Tryz.prog 16 #[.int .i64 9] w1 (ProgNew ω G p)):=h_ (fun w1 G h1=>by rw[←hp];exact adds_at ω w1 G h1 9)
       have HP9:=h_ hp;have HQ1:=h_ q1;have HQ2:Hid (∀(w':World) (P:HP) A' c' g,Sat ω w' (row 32 1 (.slice A' (k+1) c') (k+1) (xs++[.slice (some ⟨g,0,none⟩) p.length p.length])*(prH (some ⟨g,0,none⟩) p.length p*(R*P)))→Sat ω w' (jobsH A' c' (List.replicate (k+1) p)*P)):=h_ (fun w' P A' c' g hh=>by rw[rep_succ];exact q2 w' P A' c' g p hh)
       go_wp2_with (first
        |(go_at_call 16;refine(HAD.o _ _ HQ1.o).mono ?_;rintro e wA ⟨g,rfl,hA⟩;have HA:=h_ hA)
        |(at_builtin;refine wpList_append_sat rfl _ _ 29 rfl 32 i0 _ 1 24 Tryz.underlying29 HI.o HZ0.o HZ1.o HZ2.o rfl (by decide) _ _ _ rfl (HA.o.swap.junk _) _ _ _ _ _ rfl (HRD.o _ _ _ _ _) (HON.o _ _ _) (by unfold maxLen;omega) (by omega) ?_;intro A' c' wB hs;have HB:=h_ (HQ2.o wB _ A' c' g hs)))
       exact⟨⟨k+1,A',c',by omega,by go_num,rfl,by go_num,by rw[HP9.o];exact HB⟩,by simp[intOf];omega⟩
      ·have d3:(decide ((k:Int)<(q:Int)))=false:=by simp;omega
       obtain rfl:k=q:=by omega
       have HJR:Hid (Sat ω wr (row 29 1 (.slice A i cc) i (jjV vs L)*(jjAll vs L*(jobsH B d (List.replicate k (addsP 9))*(BX*(powH*F)))))):=h_ (by
        have h1:=HS2.o;unfold jjX at h1;rw[HLN.o] at h1;exact h1.perm (by ac_rfl))
       have HJQ:Hid (∀w' A' c',Sat ω w' (row 29 1 (.slice A' (i+1) c') (i+1) (jjV vs L++[.slice B k d])*(jjAll vs L*(jobsH B d (List.replicate k (addsP 9))*(BX*(powH*F)))))→Sat ω w' (jjX A' c' (vs++[(B,d)]) (Cn.jobsC (nsC ks (i+1)))*(BX*(powH*F)))):=h_ (fun w' A' c' hh=>by
        rw[HLX.o.1];refine jj_more (by rw[HVN.o,HLN.o]) ?_
        rw[HLN.o,List.length_replicate];exact hh)
       have HVS:Hid ((vs++[(B,d)]).length=i+1∧(nsC ks (i+1)).sum=S+k):=h_ ⟨by rw[List.length_append,HVN.o];rfl,HLX.o.2⟩
       go_wp2_with (at_builtin;refine wpList_append_sat rfl _ _ 28 rfl 29 j0 _ 1 24 Tryz.underlying28 HJ.o HY0.o HY1.o HY2.o rfl (by decide) _ _ _ rfl (HJR.o.junk _) _ _ _ _ _ rfl (HRD.o _ _ _ _ _) (HON.o _ _ _) (by unfold maxLen;omega) (by omega) ?_;intro A' c' wB hs;have HB:=h_ (HJQ.o wB A' c' hs))
       exact⟨⟨i+1,vs++[(B,d)],A',c',hlt,h4,HVS.o.1,by go_num,rfl,by rw[HVS.o.2];rfl,HB⟩,by simp[intOf];omega⟩
    ·have d1:(decide ((i:Int)<(m:Int)))=true:=by simp;omega
     have d2:(decide ((i:Int)<4))=false:=by simp;omega
     go_wp2_with fail;go_meet;exact⟨i,vs,A,cc,him,hi4,hvs,rfl,rfl,HS1⟩
   ·have d1:(decide ((i:Int)<(m:Int)))=false:=by simp;omega
    go_wp2_with fail;go_meet;exact⟨i,vs,A,cc,him,hi4,hvs,rfl,rfl,HS1⟩
 case rest =>
  obtain⟨i,vs,A,cc,him,hi4,hvs,rfl,rfl,HS1⟩:=hcut;obtain⟨L,hL⟩:∃L,Cn.jobsC (nsC ks i)=L:=⟨_,rfl⟩;obtain⟨S,hS⟩:∃S,(nsC ks i).sum=S:=⟨_,rfl⟩;obtain⟨G,hG⟩:∃G:HP,G=jjX A cc vs L*(BX*F):=⟨_,rfl⟩;have hLL:L.length=i:=by rw[←hL,jobsC_len];exact nsC_len ks i (by rw[HKL.o];exact him)
  have HMK:Hid (∀r:PSt,1≤r.writes∧6≤r.fuel∧r.start≤1000→∃s t0 J,MadeOf s t0 J ks i (PMc.new r L)):=h_ (fun r hr=>by
   obtain⟨s,t0,J,h1,h2,h3,h4,h5,h6⟩:=ct_new r hr.1 hr.2.1 hr.2.2 ks i hi4 (by rw[HKL.o];exact him)
   rw[←hL];exact⟨s,t0,J,h1,rfl,h2,h3,h4,h5,h6⟩)
  have HSU:Hid (∀w1 X,Sat ω w1 X→Calls Tryz.prog 11 #[.agg #[.int .i64 a0,.int .i64 a1,.int .i64 a2,.int .i64 a3,.int .i64 a4,.int .i64 a5,.int .u64 a6]] w1 fun e w'=>∃r:PSt,e=.returned (.agg #[.int .i64 r.words,.int .i64 r.stripes,.int .i64 r.wide,.int .i64 r.threads,.int .u64 r.start,.int .i64 r.spins,.int .i64 r.writes,.int .i64 r.fuel])∧Hid (1≤r.writes∧6≤r.fuel∧r.start≤1000)∧Hid (Sat ω w' X)):=h_ (fun w1 X h1=>by
   refine(setup_in ω w1 X h1 a0 a1 a2 a3 a4 a5 a6).mono ?_;rintro e w2 ⟨r,he,hb,h2⟩;exact⟨r,he,hb,h_ h2⟩)
  have HNW:Hid (∀w1 (r:PSt),1≤r.writes∧6≤r.fuel∧r.start≤1000→Sat ω w1 (jjX A cc vs L*(BX*(powH*F)))→Calls Tryz.prog 10 #[.agg #[.int .i64 r.words,.int .i64 r.stripes,.int .i64 r.wide,.int .i64 r.threads,.int .u64 r.start,.int .i64 r.spins,.int .i64 r.writes,.int .i64 r.fuel],.slice A i cc] w1 fun e w'=>∃b M s t0 J,e=.returned (.pointer (some ⟨b,0,none⟩))∧Hid (MadeOf s t0 J ks i M)∧Hid (Sat ω w' (mcH b M*(powH*G)))):=h_ (fun w1 r hr h1=>by
   obtain⟨s,t0,J,hm⟩:=HMK.o r hr;refine(mc_new ω w1 (BX*(powH*F)) r A cc i L hLL hi4 (fun l hl=>?_) vs (by rw[hvs,hLL]) h1).mono ?_
   ·rw[←hL] at hl;exact jobsC_short ks i l hl
   ·rintro e w2 ⟨b,rfl,h3⟩;exact⟨b,_,s,t0,J,rfl,h_ hm,h_ (h3.perm (by rw[hG];ac_rfl))⟩)
  have HBX:Hid (Blk wc N 24 #[.int .i64 a0,.int .i64 a1,.int .i64 a2,.int .i64 a3,.int .i64 a4,.int .i64 a5,.int .u64 a6]):=h_ (by
   have h1:=HS1.o.right;rw[hBX] at h1;exact h1.blk)
  have HLN:Hid (L.length=i∧vs.length=i∧L=Cn.jobsC (nsC ks i)∧(nsC ks i).sum=S):=h_ ⟨hLL,hvs,hL.symm,hS⟩;have HI4:=h_ hi4;have hS16:S≤16:=by rw[←hS];have:=nsC_sum ks i;omega
  rw[hL] at HS1;rw[hS];have kb:=HBX.o;have kf:=kb.frozen;have kl:=kb.lt;have k0:=kb.c 0;have k1:=kb.c 1;have k2:=kb.c 2;have k3:=kb.c 3;have k4:=kb.c 4;have k5:=kb.c 5;have k6:=kb.c 6;go_upto_block 4 with(first
   |(go_at_call 11;refine(HSU.o _ _ HS1.o).mono ?_;rintro e w1 ⟨r,rfl,HR,H1⟩)
   |(go_at_call 10;refine(HNW.o _ _ HR.o H1.o).mono ?_;rintro e w2 ⟨b,M,s,t0,J,rfl,HM,H2⟩))
  have HCT:Hid (Cn.Ct s t0 J 12749 M∧M.picks=0):=h_ ⟨HM.o.1,HM.o.2.1⟩;have HJ4:=h_ HM.o.2.2.1;have HJ0:=h_ HM.o.2.2.2.1;have HJT:=h_ HM.o.2.2.2.2;have HX0:Hid (∀(w':World) M',Sat ω w' (mcH b M'*(powH*G))→Sat ω w' (powH*F)):=h_ (fun w' M' h1=>by
   have h2:=h1.right;rw[hG] at h2;exact(h2.perm (by ac_rfl:_=(jjX A cc vs L*BX)*(powH*F))).right)
  have HPP:Hid (∀(w':World) X,Sat ω w' (X*(powH*G))→PsIn AP gp op n fT fD fZ w'):=h_ (fun w' X h1 i hi=>by
   refine HPK.o w' (X*(jjX A cc vs L*BX)) (h1.perm ?_) i hi;rw[hG];ac_rfl)
  have HDD:Hid (∀(w':World) X,Sat ω w' (X*(powH*G))→KsIn AD gd od dm ds w'):=h_ (fun w' X h1 i hi=>by
   refine HD.o w' (X*(jjX A cc vs L*BX)) (h1.perm ?_) i hi;rw[hG];ac_rfl)
  have HGG:Hid (G=jjX A cc vs L*(BX*F)):=h_ hG;go_cut [15] (fun c wx=>∃M1:PMc,Hid (Cn.Ct s t0 J 12749 M1∧M1.picks≤2000)∧Hid (Sat ω wx (mcH b M1*(powH*G))))
  case first =>
   go_wp2_with fail;go_loopw [15] (fun c wr=>∃(i:Nat) (M1:PMc),i≤n∧i≤60∧c=.int .i64 i∧Hid (Cn.Ct s t0 J 12749 M1∧M1.picks≤21*i)∧Hid (Sat ω wr (mcH b M1*(powH*G)))) (fun c _=>60-(intOf c).toNat)
   case atStart=>exact⟨0,M,by omega,by omega,rfl,h_ ⟨HCT.o.1,by rw[HCT.o.2];omega⟩,H2⟩
   case round =>
    obtain⟨i,M1,hi,hi60,rfl,HM1,HS1⟩:=hrel;by_cases hlt:i<n
    ·by_cases h60:i<60
     ·have d1:(decide ((i:Int)<(n:Int)))=true:=by simp;omega
      have d2:(decide ((i:Int)<60))=true:=by simp;omega
      obtain⟨hPA,_⟩:=HPP.o _ _ HS1.o i hlt;have hD8:=hfD i hlt;have HPS:=h_ (fun w' X hh=>(HPP.o w' X hh i hlt).2)
      obtain⟨T,hT⟩:∃T,fT i=T:=⟨_,rfl⟩;obtain⟨D,hDD⟩:∃D,fD i=D:=⟨_,rfl⟩;obtain⟨Z,hZ⟩:∃Z,fZ i=Z:=⟨_,rfl⟩;rw[hT,hDD,hZ] at HPS;rw[hDD] at hD8;subst hPA;have HPI:Hid (∀w1 X,Sat ω w1 X→Calls Tryz.prog 12 #[.pointer (some ⟨b,0,none⟩),.agg #[.int .i64 T,.int .u8 D,.int .i64 Z],.int .i64 20] w1 fun e w'=>∃r:Nat,Hid (r≤20)∧e=.returned (.int .i64 r)∧Hid (Sat ω w' X)):=h_ (fun w1 X h1=>pick_any ω w1 X h1 _ T Z D 20 (by omega))
      have HWH:Hid (∀w1 M' X,Cn.Ct s t0 J 12749 M'→Sat ω w1 (mcH b M'*X)→Calls Tryz.prog 14 #[.pointer (some ⟨b,0,none⟩),.agg #[.int .i64 T,.int .u8 D,.int .i64 Z]] w1 fun e w'=>∃r:Nat,Hid (r<M'.thr.length)∧e=.returned (.int .i64 r)∧Hid (Sat ω w' (mcH b M'*X))):=h_ (fun w1 M' X hM h1=>by
       obtain⟨l1,l2,_⟩:=hM.len
       have:=HJT.o.2.2.2
       exact who_any ω w1 X b M' h1 (by omega) (by omega) T Z D)
      have HPK2:Hid (∀w1 M' j,Cn.Ct s t0 J 12749 M'→M'.picks≤2000→j<M'.thr.length→Sat ω w1 (mcH b M'*(powH*G))→Calls Tryz.prog 13 #[.pointer (some ⟨b,0,none⟩),.int .i64 j,.int .u8 D] w1 fun e w'=>e=.returned (.int .i64 0)∧Hid (Sat ω w' (mcH b (M'.pick j D)*(powH*G)))):=h_ (fun w1 M' j hM hp hj h1=>by
       refine(mc_pick ω w1 G b M' hM.fine (by omega) j D hj hD8 h1).mono ?_
       rintro e w2 ⟨rfl,h2⟩;exact⟨rfl,h2⟩)
      have hiI:(i:Int)<(n:Int):=by omega
      go_wp2_with fail;go_loopw [16] (fun c wr=>∃(k:Nat) (M2:PMc),k≤21∧c=.int .i64 k∧Hid (Cn.Ct s t0 J 12749 M2∧M2.picks≤21*i+k)∧Hid (Sat ω wr (mcH b M2*(powH*G)))) (fun c _=>21-(intOf c).toNat)
      case atStart=>exact⟨0,M1,by omega,rfl,h_ ⟨HM1.o.1,by have:=HM1.o.2;omega⟩,HS1⟩
      case round =>
       obtain⟨k2,M2,hk2,rfl,HM2,HS2⟩:=hrel;obtain⟨hgp,hp0,hp1,hp2⟩:=HPS.o _ _ HS2.o;go_upto_region 24 with(go_at_call 12;refine(HPI.o _ _ HS2.o).mono ?_;rintro e w3 ⟨r,hr,rfl,H3⟩)
       case roundEnd =>
        have HE:Hid (Cn.Ct s t0 J 12749 M2∧M2.picks≤21*(i+1)):=h_ ⟨HM2.o.1,by have h1:=HM2.o.2;omega⟩
        exact⟨⟨i+1,M2,by omega,by omega,by go_num,HE,H3⟩,by simp[intOf];omega⟩
       rename_i hkr KK hKK0;have HKK:=h_ hKK0;have hr12:=hr.out;have hpk:M2.picks≤2000:=by have:=HM2.o.2;omega
       have HS0:=HPS.o _ _ H3.o.drew;refine gN (PkS gp (op+i*3) T D Z) HS0 fun hh0=>?_
       refine tH 0 ?_ rfl ?_ (tH 1 ?_ rfl ?_ (tH 2 ?_ rfl ?_ (tH 3 ?_ rfl ?_ (tH 4 ?_ rfl ?_ (tH 5 ?_ rfl ?_ (tH 7 ?_ rfl ?_ (tH 8 ?_ rfl ?_ (tH 9 ?_ rfl ?_ (tH 10 ?_ rfl ?_ (tH 11 ?_ rfl ?_ ?_))))))))));all_goals (try (
        intro w hSw;obtain⟨jl,j0,j1,j2⟩:=hSw;try simp only[sP]
        go_simp<;>(try with_reducible rfl)))
       try simp only[sP]
       refine oH 6 rfl fun K hK=>?_
       go_simp;go_at_call 14;refine(HWH.o _ M2 _ HM2.o.1 H3.o.drew).mono ?_;rintro e wA ⟨j,hj,rfl,HA⟩;try go_wp2_with fail
       refine hK.q ?_ fun hh1=>?_
       ·exact HPS.o _ _ HA.o
       try simp only[sP]
       refine oH 12 rfl fun K hK=>?_
       go_simp;go_at_call 13;refine(HPK2.o _ M2 j HM2.o.1 hpk hj.out HA.o).mono ?_;rintro e wB ⟨rfl,HB⟩;try go_wp2_with fail
       refine hK.q ?_ fun hh2=>?_
       ·exact HPS.o _ _ HB.o
       try simp only[sP]
       refine dN ?_;have HM3:Hid (Cn.Ct s t0 J 12749 (M2.pick j D)∧(M2.pick j D).picks≤21*i+(k2+1)):=h_ ⟨HM2.o.1.pick HJ4.o (by omega) j D (by rw[←HM2.o.1.len.1];exact hj.out),by have h1:=pick_picks M2 j D;have h2:=HM2.o.2;omega⟩
       have hk13:k2+1≤21:=by omega
       refine HKK.o _ _ ?_;go_wp2;exact⟨⟨k2+1,M2.pick j D,hk13,by go_num,HM3,HB⟩,by simp[intOf];omega⟩
     ·have d1:(decide ((i:Int)<(n:Int)))=true:=by simp;omega
      have d2:(decide ((i:Int)<60))=false:=by simp;omega
      have HZ:Hid (Cn.Ct s t0 J 12749 M1∧M1.picks≤2000):=h_ ⟨HM1.o.1,by have:=HM1.o.2;omega⟩
      go_wp2_with fail;go_meet;exact⟨M1,HZ,HS1⟩
    ·have d1:(decide ((i:Int)<(n:Int)))=false:=by simp;omega
     have HZ:Hid (Cn.Ct s t0 J 12749 M1∧M1.picks≤2000):=h_ ⟨HM1.o.1,by have:=HM1.o.2;omega⟩
     go_wp2_with fail;go_meet;exact⟨M1,HZ,HS1⟩
  case rest =>
   obtain⟨M1,HM1,HS1⟩:=hcut;have HSE:Hid (Calls Tryz.prog 17 #[.pointer (some ⟨b,0,none⟩),.slice AD dm cd] wc fun e w'=>e=.returned (.bool true)∧∃M',Hid (Rest s t0 J M')∧Hid (Sat ω w' (mcH b M'*(powH*G)))):=h_ (settled_any ω _ G b s t0 J M1 HM1.o.1 HM1.o.2 ds AD gd od dm cd hd8 HDD HS1.o)
   have HEN:Hid (∀M',Rest s t0 J M'→∃N,Cn.End J S M' N∧McFine M'∧i≤M'.thr.length):=h_ (fun M' ⟨P,h1,h2⟩=>by
    obtain⟨N,h3⟩:=h1.ended h2 HJ0.o;rw[HJT.o.2.1,HLN.o.2.2.2] at h3;exact⟨N,h3,h1.fine,by rw[h1.len.1];exact HJT.o.2.2.1⟩)
   obtain⟨T,hT⟩:∃T,S+1=T:=⟨_,rfl⟩;have hTi:(S:Int)+1=(T:Int):=by omega
   have hmk:=fun w=>run_make_row' (P:=Tryz.prog) 60 4 (.bool false) 1 Tryz.underlying60 infoBool_ rfl .i64 .i64 T (by omega) (by omega) w
   have HT1:=h_ hT;have HWD:Hid (∀w1 M',Rest s t0 J M'→Sat ω w1 (mcH b M'*(powH*G))→Calls Tryz.prog 18 #[.pointer (some ⟨b,0,none⟩)] w1 fun e w'=>∃A4 c4 W,e=.returned (.slice A4 W c4)∧Hid (Sat ω w' (row 22 1 (.slice A4 W c4) W (vU M'.mem.words)*(mcH b M'*(powH*G))))∧Hid (M'.mem.words.length=W)∧Hid (9<W∧W≤maxLen)):=h_ (fun w1 M' hr h1=>by
    obtain⟨N,he,hf,_⟩:=HEN.o M' hr;refine(mc_words ω w1 _ b M' h1 hf).mono ?_;rintro e w2 ⟨A4,c4,rfl,h2⟩;exact⟨A4,c4,_,rfl,h_ h2,h_ rfl,h_ ⟨he.len,row_max h2⟩⟩)
   go_upto_region 29 with(first
    |(go_at_call 17;refine(HSE.o).mono ?_;rintro e w3 ⟨rfl,M2,HR2,H3⟩)
    |(go_at_call 18;refine(HWD.o _ M2 HR2.o H3.o).mono ?_;rintro e w4 ⟨A4,c4,W,rfl,H4,HW1,HW2⟩))
   obtain⟨N9,HE⟩:∃N9,Hid (Cn.End J S M2 N9∧McFine M2∧i≤M2.thr.length):=by
    obtain⟨N9,h9⟩:=HEN.o M2 HR2.o;exact⟨N9,h_ h9⟩
   obtain⟨Y,hY⟩:∃Y:HP,Y=row 22 1 (.slice A4 W c4) W (vU M2.mem.words)*(mcH b M2*(powH*G)):=⟨_,rfl⟩;rw[←hY] at H4;have HM0:Hid (Sat ω (w4.alloc (.cells (madeCells #[.bool false] T) 4)) (markH w4.heap.size S (Cn.pre N9 0)*Y)):=h_ (mark_new S T HT1.o H4.o);have HYY:=h_ hY;obtain⟨gt,hgt⟩:∃gt,w4.heap.size=gt:=⟨_,rfl⟩;rw[hgt] at HM0 ⊢;generalize (w4.alloc (.cells (madeCells #[.bool false] T) 4))=wM at *
   have HLL:Hid (∀w' X t,t<i→Sat ω w' (X*Y)→∃ga B d,A=some ⟨ga,0,none⟩∧ga<w'.heap.size∧w'.cell? ⟨ga,t,none⟩=some (.slice B (ks.getD t 0%5) d)):=h_ (fun w' X t ht h1=>by
    rw[HYY.o,HGG.o] at h1;obtain⟨l1,l2,l3,l4⟩:=HLN.o;obtain⟨B,d,R,h3,_⟩:=jjAll_at vs L (by rw[l1,l2]) t (by rw[l1];exact ht)
    rw[l3,jobsC_getD,nsC_at ks i t ht (by rw[HKL.o];exact him),List.length_replicate,←l3] at h3
    have h2:Sat ω w' (row 29 1 (.slice A L.length cc) L.length (jjV vs L)*(X*(row 22 1 (.slice A4 W c4) W (vU M2.mem.words)*(mcH b M2*(powH*(jjAll vs L*(BX*F))))))):=h1.perm (by unfold jjX;ac_rfl)
    obtain⟨ga,e1,e2,e3⟩:=h2.rowCell h3;exact⟨ga,B,d,e1,e2,e3⟩)
   have HRS:Hid (∀w1 X t,t<i→Sat ω w1 (X*Y)→∃rs,Hid (Cn.Tolds (N9 t) rs∧rs.length=ks.getD t 0%5∧(N9 t).length=ks.getD t 0%5)∧Calls Tryz.prog 19 #[.pointer (some ⟨b,0,none⟩),.int .i64 t] w1 (RetR ω (X*Y) 66 4 (ks.getD t 0%5) (rs.flatMap reV))):=h_ (fun w1 X t ht h1=>by
    obtain⟨he,hf,hl⟩:=HE.o;obtain⟨tt,htt⟩:∃tt,M2.thr[t]?=some tt:=⟨_,List.getElem?_eq_getElem (by omega)⟩
    obtain⟨h5,h6⟩:=he.told t tt htt;have h7:=h5.len;rw[h6,HJT.o.1 t ht] at h7;refine⟨tt.results,h_ ⟨h5,h7.symm,by rw[h6,HJT.o.1 t ht]⟩,?_⟩
    have h2:Sat ω w1 (mcH b M2*(row 22 1 (.slice A4 W c4) W (vU M2.mem.words)*(X*(powH*G)))):=h1.perm (by rw[HYY.o];ac_rfl)
    have h3:=mc_results ω w1 _ b M2 h2 t tt htt (by omega)
    rw[←h7] at h3;refine h3.mono ?_;rintro e w2 ⟨A5,c5,rfl,h4⟩;exact⟨A5,c5,rfl,h4.perm (by rw[HYY.o];ac_rfl)⟩)
   have HKS:=h_ (fun t=>Nat.mod_lt (ks.getD t 0) (show 0<5 by decide))
   go_wp2_with fail;go_loopw [19] (fun c wr=>∃t:Nat,t≤i∧c=.int .i64 t∧Hid (Sat ω wr (markH gt S (Cn.pre N9 t)*Y))) (fun c _=>i-(intOf c).toNat)
   case atStart=>exact⟨0,Nat.zero_le _,rfl,HM0⟩
   case round =>
    obtain⟨t,ht,rfl,HS4⟩:=hrel;by_cases hti:t<i
    ·have d1:(decide ((t:Int)<(i:Int)))=true:=by simp;omega
     obtain⟨rs,HTO,hRE⟩:=HRS.o _ _ t hti HS4.o;have hq5:=HKS.o t;have HLt:=h_ (fun w' X h1=>HLL.o w' X t hti h1)
     obtain⟨q,hq⟩:∃q,ks.getD t 0%5=q:=⟨_,rfl⟩;rw[hq] at hRE HTO HLt hq5;have HRE:=h_ hRE;have hqq:((q:Int) != (q:Int))=false:=by simp
     go_upto_if 120 with(go_at_call 19;refine(HRE.o).mono ?_;rintro e w5 ⟨A5,c5,rfl,h5⟩;have H5:=h_ h5;obtain⟨ga,B,d,e1,gl,gc⟩:=HLt.o w5 (row 66 4 (.slice A5 q c5) q (rs.flatMap reV)*markH gt S (Cn.pre N9 t)) (H5.o.perm (by ac_rfl));subst e1)
     go_wp2_with fail;go_loopw [21] (fun c wr=>∃k:Nat,k≤q∧c=.int .i64 k∧Hid (Sat ω wr (markH gt S (Cn.pre N9 t++(N9 t).take k)*(row 66 4 (.slice A5 q c5) q (rs.flatMap reV)*Y)))) (fun c _=>q-(intOf c).toNat)
     case atStart=>exact⟨0,Nat.zero_le _,rfl,h_ (by rw[List.take_zero,List.append_nil];exact H5.o.perm (by ac_rfl))⟩
     case round =>
      obtain⟨k,hk,rfl,HS5⟩:=hrel;by_cases hkq:k<q
      ·have d3:(decide ((k:Int)<(q:Int)))=true:=by simp;omega
       obtain⟨x,hx⟩:∃x,(N9 t)[k]?=some x:=⟨_,List.getElem?_eq_getElem (by rw[HTO.o.2.2];exact hkq)⟩
       obtain⟨f1,f2,f3⟩:=HE.o.1.fresh (by have:=HI4.o;omega) hx
       obtain⟨r,hr,e1,e2⟩:=HTO.o.1.at k x hx;obtain⟨r1,r2⟩:=reV_at rs k r hr;rw[e1] at r1;rw[e2] at r2;obtain⟨g5,eA,gl5,gk⟩:=HS5.o.right.rowCellN r1;subst eA;obtain⟨g6,eA,_,gs⟩:=HS5.o.right.rowCellN r2;cases eA;obtain⟨ml,mf,mc,HN⟩:=markH_at HS5.o f2 f3;have HNE:=h_ HN;have hps:=Cn.pre_snoc hx;rw[←hps] at HNE;have gk2:wr.cell? ⟨g5,k*4,none⟩=some (.int .i64 2):=gk;have gs2:wr.cell? ⟨g5,k*4+2,none⟩=some (.string (digs x)):=gs;have HNU:=h_ (number_at S hS16 x f1 f2 wr);have hx1:¬(x:Int)<1:=by omega
       have hxS:(x:Int)<(T:Int):=by have:=HT1.o;omega
       have hkI:(k:Int)<(q:Int):=by omega
       have hwS:IntKind.u64.wrap (S:Int)=(S:Int):=by rw[IntKind.wrap_u64];omega
       go_wp2_with (go_at_call 20;refine(HNU.o).mono ?_;rintro e w6 ⟨rfl,rfl⟩);exact⟨⟨k+1,hkq,by go_num,HNE⟩,by simp[intOf];omega⟩
      ·obtain rfl:k=q:=by omega
       have d3:(decide ((k:Int)<(k:Int)))=false:=by simp
       have HZ:Hid (Sat ω wr (markH gt S (Cn.pre N9 (t+1))*Y)):=h_ (by
        have h1:=HS5.o;rw[←HTO.o.2.2,List.take_length] at h1;exact h1.swap.right)
       go_wp2_with fail;exact⟨⟨t+1,hti,by go_num,HZ⟩,by simp[intOf];omega⟩
    ·have d1:(decide ((t:Int)<(i:Int)))=false:=by simp;omega
     have h5:=HS4.o.right;rw[HYY.o] at h5;obtain⟨g4,eA,gl,gc⟩:=h5.rowCell (i:=9) (v:=.int .u64 S) (by
      have h9:=@vU_at M2.mem.words 9 HE.o.1.len;rw[HE.o.1.word] at h9;exact h9)
     subst eA;have hW9:=HW2.o.1;have hWm:=HW2.o.2;have dW:(decide ((W:Int) > 9))=true:=by simp;omega
     have hwS:IntKind.u64.wrap (S:Int)=(S:Int):=by rw[IntKind.wrap_u64];omega
     have HZ:=h_ (HX0.o _ _ h5.right);go_wp2_with fail;go_ret;exact⟨by simp,HZ.o⟩
section
open Go.ChangeShapes Go.WideShapes Go.ChangeAt Go.RowKit Go.Joins Go.Deep
section
variable {H : Type} {enc : TypeId × Value → H} {P : Program} {w : World} {base : Nat} {spare : Nat → Bool} {held : Bool}
theorem open_fields {r:Reach}{b0:Nat}{t:TypeId}{fs:Array Field}{v:Value}{d:DataW H}{p:List MemPlace}(hs:P.underlying t=some (.struct fs))(hone:oneCellFields P fs=true)(hC:P.cellsOf t=fs.size)
  (hv:Value.okWide P w r b0 t v) (h:DataW.Trod enc P w base spare held t v d p):
  ∃(l:List Value) (n:Nat),v=.agg ⟨l⟩∧l.length=fs.size∧∀(j:Nat) (f:Field),fs[j]?=some f→∃c y,l[j]?=some c∧DataW.trod enc P w base spare held n f.type [c]=some y:=by
 obtain⟨cs,rfl,hsz⟩:=okWide_struct hs hv;obtain⟨fuel,hf⟩:=h;obtain⟨xs,n,_,_,_,hlen,hx⟩:=DataW.trod_struct hs hf;rcases cs with⟨l⟩
 have hl:l.length=fs.size:=hsz.trans hC;refine⟨l,n,rfl,hl,fun j f hj=>?_⟩
 obtain⟨ho,hk⟩:=hone_of hone j f hj;have hjl:j<fs.size:=(Array.getElem?_eq_some_iff.1 hj).1;have h1:=hx j f hj;rw[ho,hk,List.getElem?_eq_getElem (by omega)] at h1
 have h2:List.take 1 (List.drop j (Value.agg ⟨l⟩).cells.toList)=[l[j]'(by omega)]:=by
  show(l.drop j).take 1=_
  rw[List.drop_eq_getElem_cons (by omega)]
  rfl
 rw[h2] at h1;exact⟨_,_,List.getElem?_eq_getElem (by omega),h1⟩
theorem open_slice_fields {t e:TypeId}{fs:Array Field}{fuel:Nat}{cs:List Value}{x:DataW H×List MemPlace}(ht:P.underlying t=some (.slice e))(he:P.underlying e=some (.struct fs))
  (hone:oneCellFields P fs=true) (hC:P.cellsOf e=fs.size) (h:DataW.trod enc P w base spare held fuel t cs=some x):
  (cs=[.slice none 0 0]∧x=(.nil,[])) ∨
  ∃(a:Addr) (len cap m:Nat) (D:Nat→DataW H) (Pl:Nat→List MemPlace),cs=[.slice (some a) len cap]∧base≤a.block∧len≤cap∧cap≤maxLen∧m=(if spare a.block then cap else len) ∧
   x=(.slice ((List.range len).map D) ((List.range (m-len)).map fun j=>D (len+j)),MemPlace.row a (m*fs.size)++(List.range m).flatMap Pl) ∧
   ∀i,i<m→∃(ys:List (DataW H×List MemPlace)) (n:Nat),D i=.agg (ys.map (·.1))∧Pl i=ys.flatMap (·.2)∧ys.length=fs.size ∧
    ∀(j:Nat) (f:Field),fs[j]?=some f→∃(v:Value) (y:DataW H×List MemPlace),w.cell? (a.add (i*fs.size+j))=some v∧ys[j]?=some y∧DataW.trod enc P w base spare held n f.type [v]=some y:=by
 rcases open_slice ht h with h0|⟨a,len,cap,m,n,D,Pl,hcs,hb,hl,hm,hmm,hx,hi⟩
 ·exact .inl h0
 ·refine .inr ⟨a,len,cap,m,D,Pl,hcs,hb,hl,hm,hmm,by rw[hC] at hx;exact hx,fun i him=>?_⟩
  obtain⟨cs',hc,ht'⟩:=hi i him;rw[hC] at hc;obtain⟨ys,n',hn',hy,hlen,hyl,hf⟩:=DataW.trod_struct he ht';obtain⟨_,hcl,hat⟩:=World.cells?_some hc;simp only[Prod.mk.injEq] at hy;refine⟨ys,n',hy.1,hy.2,hyl,fun j f hj=>?_⟩
  obtain⟨ho,hk⟩:=hone_of hone j f hj;have hjl:j<fs.size:=(Array.getElem?_eq_some_iff.1 hj).1;have hcell:=hat j hjl;have hv:cs'[j]?=some (cs'[j]'(by omega)):=List.getElem?_eq_getElem (by omega)
  have h1:=hf j f hj;rw[ho,hk] at h1;have hone':(cs'.drop j).take 1=[cs'[j]'(by omega)]:=by
   rw[List.drop_eq_getElem_cons (by omega)]
   rfl
  rw[hone'] at h1;have hys:ys[j]?=some (ys[j]'(by omega)):=List.getElem?_eq_getElem (by omega)
  refine⟨_,_,?_,hys,h1.trans hys⟩;rw[←Go.Deep.add_add,hcell,hv]
end
theorem cellsSetup:Tryz.prog.cellsOf 24=7:=by kernel_rfl
def SetupWf (a6:Int):Prop:=0≤a6∧a6≤18446744073709551615
theorem open_setup {H:Type}{enc:TypeId×Value→H}{w:World}{v:Value}{d:DataW H}{ps:List MemPlace}{b0:Nat}(hv:Value.okWide Tryz.prog w .any b0 24 v)
  (h:DataW.Trod enc Tryz.prog w 0 (fun _=>true) true 24 v d ps):∃(a0 a1 a2 a3 a4 a5 a6:Int),v=.agg #[.int .i64 a0,.int .i64 a1,.int .i64 a2,.int .i64 a3,.int .i64 a4,.int .i64 a5,.int .u64 a6]∧SetupWf a6:=by
 obtain⟨l,n,rfl,hl,hf⟩:=open_fields Tryz.underlying24 (by kernel_rfl) cellsSetup hv h
 match l,hl with
 | [c0,c1,c2,c3,c4,c5,c6],_ =>
  have key:∀(c:Value) (y:DataW H×List MemPlace),DataW.trod enc Tryz.prog w 0 (fun _=>true) true n 3 [c]=some y→∃x,c=.int .i64 x:=fun c y h=>by
   obtain⟨x,e,_⟩:=DataW.trod_int Tryz.underlying3 h;exact⟨x,by simpa using e⟩
  obtain⟨_,_,e0,h0⟩:=hf 0 _ rfl;obtain⟨_,_,e1,h1⟩:=hf 1 _ rfl;obtain⟨_,_,e2,h2⟩:=hf 2 _ rfl;obtain⟨_,_,e3,h3⟩:=hf 3 _ rfl;obtain⟨_,_,e4,h4⟩:=hf 4 _ rfl;obtain⟨_,_,e5,h5⟩:=hf 5 _ rfl;obtain⟨_,_,e6,h6⟩:=hf 6 _ rfl;cases e0;cases e1;cases e2;cases e3;cases e4;cases e5;cases e6;obtain⟨x0,rfl⟩:=key _ _ h0;obtain⟨x1,rfl⟩:=key _ _ h1;obtain⟨x2,rfl⟩:=key _ _ h2;obtain⟨x3,rfl⟩:=key _ _ h3;obtain⟨x4,rfl⟩:=key _ _ h4;obtain⟨x5,rfl⟩:=key _ _ h5;obtain⟨x6,e6,_,w6⟩:=DataW.trod_int Tryz.underlying22 h6;simp at e6;subst e6;have b6:=bounds_u64 w6;exact⟨x0,x1,x2,x3,x4,x5,x6,rfl,by omega,by omega⟩
theorem lt_cell {w:World}{a:Addr}{v:Value}(h:w.cell? a=some v):a.block<w.heap.size:=by
 rcases Nat.lt_or_ge a.block w.heap.size with hlt|hge
 ·exact hlt
 ·exfalso;simp[World.cell?,Array.getElem?_eq_none hge] at h
def BytesArg (w:World)(A:Option Addr)(len:Nat):Prop :=
 ∃ks:List Nat,ks.length=len∧len≤maxLen∧(∀z∈ks,z<256)∧∀i,i<len→∃b o,A=some ⟨b,o,none⟩∧b<w.heap.size∧w.cell? ⟨b,o+i,none⟩=some (.int .u8 ((ks.getD i 0:Nat):Int))
theorem open_bytes {H:Type}{enc:TypeId×Value→H}{w:World}{v:Value}{d:DataW H}{ps:List MemPlace}{b0:Nat}(hv:Value.okWide Tryz.prog w .any b0 25 v)
  (h:DataW.Trod enc Tryz.prog w 0 (fun _=>true) true 25 v d ps):∃A len cap,v=.slice A len cap∧BytesArg w A len:=by
 obtain⟨A,len,cap,rfl⟩:=okWide_slice Tryz.underlying25 hv;obtain⟨fuel,hf⟩:=h;refine⟨A,len,cap,rfl,?_⟩;rcases open_ints Tryz.underlying25 Tryz.underlying5 (by kernel_rfl) hf with⟨hcs,_⟩|⟨a,l,c,zs,hcs,_,hl,hm,hz,_,hcell,hwz⟩
 ·simp[Value.cells] at hcs;obtain⟨rfl,rfl,rfl⟩:=hcs;exact⟨[],rfl,by simp,fun z hz=>by simp at hz,fun i h=>by omega⟩
 ·simp[Value.cells] at hcs;obtain⟨rfl,rfl,rfl⟩:=hcs;have hzl:zs.length=cap:=by rw[hz];simp
  obtain⟨b,o,s⟩:=a;refine⟨(zs.take len).map Int.toNat,by simp;omega,by omega,fun z hz=>?_,fun i hlen=>?_⟩
  ·obtain⟨y,hy,rfl⟩:=List.mem_map.1 hz
   have:=bounds_u8 (hwz y (List.mem_of_mem_take hy))
   omega
  ·have hs:s=none:=by
    have c0:=hcell 0 (by omega)
    simpa [Addr.add] using World.cell?_spot c0
   subst hs;refine⟨b,o,rfl,?_,?_⟩
   ·have c0:=hcell 0 (by omega)
    simpa [Addr.add] using lt_cell c0
   ·have ci:=hcell i (by omega)
    have hy:zs[i]?=some (zs[i]'(by omega)):=List.getElem?_eq_getElem (by omega)
    have hb:=bounds_u8 (hwz _ (List.getElem_mem (by omega:i<zs.length)))
    have hiv:zs.getD i 0=zs[i]'(by omega):=by
     rw[gD,hy];rfl
    have hkv:((zs.take len).map Int.toNat).getD i 0=(zs[i]'(by omega)).toNat:=by
     rw[gD,List.getElem?_map,List.getElem?_take,if_pos hlen,hy];rfl
    rw[hiv] at ci;rw[hkv,show(((zs[i]'(by omega)).toNat:Nat):Int)=zs[i]'(by omega) by omega]
    by_cases hz0:i=0
    ·subst hz0;simpa [Addr.add] using ci
    ·simpa [Addr.add,hz0] using ci
def PickAt (w:World)(b o:Nat)(T:Int)(D:Nat)(N:Int):Prop:=w.cell? ⟨b,o,none⟩=some (.int .i64 T)∧w.cell? ⟨b,o+1,none⟩=some (.int .u8 D)∧w.cell? ⟨b,o+2,none⟩=some (.int .i64 N)
def PicksArg (w:World)(A:Option Addr)(len:Nat):Prop:=len≤maxLen∧∀i,i<len→∃b o T D N,A=some ⟨b,o,none⟩∧b<w.heap.size∧D<256∧PickAt w b (o+i*3) T D N
theorem add_plain' (b o j:Nat):(⟨b,o,none⟩:Addr).add j=⟨b,o+j,none⟩:=by
 unfold Addr.add;split
 ·rename_i h;subst h;rfl
 ·rfl
theorem block_of_add' (a:Addr)(n:Nat):(a.add n).block=a.block:=by unfold Addr.add;split<;>rfl
theorem open_picks {H:Type}{enc:TypeId×Value→H}{w:World}{v:Value}{d:DataW H}{ps:List MemPlace}{b0:Nat}(hv:Value.okWide Tryz.prog w .any b0 26 v)
  (h:DataW.Trod enc Tryz.prog w 0 (fun _=>true) true 26 v d ps):∃A len cap,v=.slice A len cap∧PicksArg w A len:=by
 obtain⟨A,len,cap,rfl⟩:=okWide_slice Tryz.underlying26 hv;obtain⟨fuel,hf⟩:=h;refine⟨A,len,cap,rfl,?_⟩;rcases open_slice_fields Tryz.underlying26 Tryz.underlying43 (by kernel_rfl) (by kernel_rfl) hf with⟨hcs,_⟩|⟨a,l,c,m,D,Pl,hcs,_,hl,hm,hmm,_,hel⟩
 ·simp[Value.cells] at hcs;obtain⟨rfl,rfl,rfl⟩:=hcs;exact⟨by simp,fun i h=>absurd h (by omega)⟩
 ·simp[Value.cells] at hcs;obtain⟨rfl,rfl,rfl⟩:=hcs;refine⟨by omega,fun i hi=>?_⟩
  have hml:len≤m:=by rw[hmm];simp;exact hl
  obtain⟨ys,n,_,_,_,hf⟩:=hel i (by omega)
  obtain⟨v0,y0,c0,_,t0⟩:=hf 0 _ rfl;obtain⟨v1,y1,c1,_,t1⟩:=hf 1 _ rfl;obtain⟨v2,y2,c2,_,t2⟩:=hf 2 _ rfl;obtain⟨x0,e0,_,b0⟩:=DataW.trod_int Tryz.underlying3 t0;obtain⟨x1,e1,_,b1⟩:=DataW.trod_int Tryz.underlying5 t1;obtain⟨x2,e2,_,b2⟩:=DataW.trod_int Tryz.underlying3 t2;simp at e0 e1 e2;subst e0 e1 e2;have g1:=bounds_u8 b1;obtain⟨b,o,s⟩:=a;have hs:s=none:=by
   obtain⟨ys0,n0,_,_,_,hf0⟩:=hel 0 (by omega)
   obtain⟨v00,y00,c00,_,_⟩:=hf0 0 _ rfl;simpa [Addr.add] using World.cell?_spot c00
  subst hs;have hlt:=lt_cell c1;rw[block_of_add'] at hlt;rw[add_plain'] at c0 c1 c2;refine⟨b,o,x0,x1.toNat,x2,rfl,hlt,by omega,?_,?_,?_⟩
  ·simpa using c0
  ·rw[show((x1.toNat:Nat):Int)=x1 by omega]
   simpa [Nat.add_assoc] using c1
  ·simpa [Nat.add_assoc] using c2
end
def rdA (W:World)(a:Addr):Int:=intOf ((W.cell? a).getD undef)
theorem addr_inj {a b c d:Nat}{A:Option Addr}(h1:A=some ⟨a,b,none⟩)(h2:A=some ⟨c,d,none⟩):a=c∧b=d:=by
 rw[h1] at h2;cases h2;exact⟨rfl,rfl⟩
theorem bytes_in {W:World}{AK:Option Addr}{m:Nat}(hk:BytesArg W AK m):∃ks gk ok,ks.length=m∧(∀x∈ks,x<256)∧∀w',Below W.heap.size W w'→KsIn AK gk ok m ks w':=by
 obtain⟨ks,hks,hm,hk8,hkc⟩:=hk;rcases Nat.eq_zero_or_pos m with h0|h0
 ·exact⟨ks,0,0,hks,hk8,fun w' h i hi=>absurd hi (by omega)⟩
 ·obtain⟨gk,ok,hA,hlt,_⟩:=hkc 0 h0;refine⟨ks,gk,ok,hks,hk8,fun w' hb i hi=>?_⟩
  obtain⟨gk2,ok2,hA2,_,hc⟩:=hkc i hi;obtain⟨rfl,rfl⟩:=addr_inj hA hA2;exact⟨hA,Nat.lt_of_lt_of_le hlt hb.size,(hb.cell hlt).trans hc⟩
theorem picks_in {W:World}{AP:Option Addr}{n:Nat}(hp:PicksArg W AP n):∃gp op,∃(fT:Nat→Int) (fD:Nat→Nat) (fZ:Nat→Int),(∀i,i<n→fD i<256)∧∀w',Below W.heap.size W w'→PsIn AP gp op n fT fD fZ w':=by
 obtain⟨hn,hpc⟩:=hp;rcases Nat.eq_zero_or_pos n with h0|h0
 ·exact⟨0,0,fun _=>0,fun _=>0,fun _=>0,fun i hi=>absurd hi (by omega),fun w' h i hi=>absurd hi (by omega)⟩
 ·obtain⟨gp,op,_,_,_,hA,hlt,_⟩:=hpc 0 h0;refine⟨gp,op,fun i=>rdA W ⟨gp,op+i*3,none⟩,fun i=>(rdA W ⟨gp,op+i*3+1,none⟩).toNat,fun i=>rdA W ⟨gp,op+i*3+2,none⟩,fun i hi=>?_,fun w' hb i hi=>?_⟩
  ·obtain⟨gp2,op2,T,D,Z,hA2,_,hD,c0,c1,c2⟩:=hpc i hi;obtain⟨rfl,rfl⟩:=addr_inj hA hA2;show(rdA W ⟨gp,op+i*3+1,none⟩).toNat<256
   rw[rdA,c1];show((D:Int)).toNat<256
   omega
  ·obtain⟨gp2,op2,T,D,Z,hA2,_,hD,c0,c1,c2⟩:=hpc i hi;obtain⟨rfl,rfl⟩:=addr_inj hA hA2;refine⟨hA,Nat.lt_of_lt_of_le hlt hb.size,?_,?_,?_⟩
   ·rw[hb.cell hlt];show _=some (Value.int .i64 (rdA W _));rw[rdA,c0];rfl
   ·rw[hb.cell hlt];show _=some (Value.int .u8 ((rdA W _).toNat:Int));rw[rdA,c1];rfl
   ·rw[hb.cell hlt];show _=some (Value.int .i64 (rdA W _));rw[rdA,c2];rfl
theorem top_counter (W:World)(a0 a1 a2 a3 a4 a5 a6:Int)(h6:SetupWf a6)(AK:Option Addr)(m ck:Nat)(hk:BytesArg W AK m)(AP:Option Addr)(n cp:Nat)(hp:PicksArg W AP n)(AD:Option Addr)(dm cd:Nat)(hd:BytesArg W AD dm)(hw:Pow10 W):
  Calls Tryz.prog 4 #[.agg #[.int .i64 a0,.int .i64 a1,.int .i64 a2,.int .i64 a3,.int .i64 a4,.int .i64 a5,.int .u64 a6],.slice AK m ck,.slice AP n cp,.slice AD dm cd] W fun e w'=>e=.returned (.bool true)∧Below W.heap.size W w':=by
 obtain⟨x6,rfl⟩:=Int.eq_ofNat_of_zero_le h6.1;have ho:W.heap[0]?=some (W.heap[0]'hw.lt):=Array.getElem?_eq_getElem hw.lt
 letI:Inhabited PowO:=⟨⟨W.heap[0]'hw.lt,fun w' hw'=>hw.block (hw'.trans ho.symm)⟩⟩
 have e:powH*restOf W=wholeOf W:=pow_whole ho;have hold:∀w' X,Sat W w' (X*(powH*restOf W))→Below W.heap.size W w':=fun w' X h=>by
  have h1:=h.right;rw[e] at h1;exact h1.old
 obtain⟨ks,gk,ok,hks,hk8,hK⟩:=bytes_in hk;obtain⟨ds,gd,od,hds,hd8,hD⟩:=bytes_in hd;obtain⟨gp,op,fT,fD,fZ,hP8,hP⟩:=picks_in hp;refine(counter_any W W (restOf W) (e▸Sat.whole W) a0 a1 a2 a3 a4 a5 x6 ks AK gk ok m ck hks hk8 (h_ fun w' X h=>hK w' (hold w' X h)) AP gp op n cp fT fD fZ hP8 (h_ fun w' X h=>hP w' (hold w' X h)) ds AD gd od dm cd hds hd8 (h_ fun w' X h=>hD w' (hold w' X h))).mono ?_
 rintro e2 w' ⟨rfl,h⟩;rw[e] at h;exact⟨rfl,h.old⟩
theorem pow10Type:(Tryz.prog.globals[0]?).map (·.type)=some 399:=by kernel_rfl
theorem cellsPow:Tryz.prog.cellsOf 399=20:=by kernel_rfl
theorem cellsU64:Tryz.prog.cellsOf 22=1:=by kernel_rfl
theorem pow10_data:(Rows.laid_internal_strconv_uint64pow10:DataW Unit)=Lib.tabData .u64 Lib.pow10Tab:=by kernel_rfl
theorem pow10_at {W:World}{a b:String×DataW Unit}{rest:List (String×DataW Unit)}(h:laidMet Tryz.prog (a::b::("internal/strconv.uint64pow10",Rows.laid_internal_strconv_uint64pow10)::rest) W):Pow10 W:=by
 have h2:=laidMet.tail (laidMet.tail h);rw[pow10_data] at h2;exact Lib.tabIs_of_head pow10_named pow10Type Tryz.underlying399 Tryz.underlying22 cellsU64 cellsPow h2
theorem pow10_topCounter {W:World}(h:laidMetH Tryz.prog Rows.topCounterRow.laid W):Pow10 W:=by
 rw[MakeChecks.laidMetH_plain _ _ _ (by kernel_rfl)] at h
 exact pow10_at h
end Go.Proofs.YtfodmgaliclhfaaGreatDoor
