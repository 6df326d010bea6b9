/- Lemmas. -/
import Derived.Test.YtfodmgaliclhfaaGreatDoorGTail
import Derived.Deep.QuietTactic
import Derived.BigQuiet
import Derived.WalkSpells
namespace Go.Proofs.YtfodmgaliclhfaaGreatDoor
set_option linter.unusedVariables false
set_option linter.unusedSimpArgs false
set_option maxRecDepth 100000
set_option maxHeartbeats 4000000
open Go.RowKit Go.Proofs.Tryz Iq
section
def opA (o:POp):Value:=.agg #[o.kind,o.at_,υ o.old,υ o.word,υ o.was.ver,.bool o.was.held,o.was.own,υ o.lock.ver,.bool o.lock.held,o.lock.own]
def ansA (a:PAns):Value:=.agg #[υ a.word,υ a.lock.ver,.bool a.lock.held,a.lock.own,.bool a.done,a.err]
structure MemA where
 bh:Nat
 bt:Nat
 bc:Nat
 bs:Nat
structure MSh where
 words:Nat
 stripes:Nat
 wide:Nat
 threads:Nat
 start:Nat
def memCells (s:MSh)(A:MemA)(count:Int):Array Value:=#[s.words,s.stripes,s.wide,s.threads,υ s.start,.pointer A.bh,.pointer A.bt,.pointer A.bc,.pointer A.bs,count]
def memHA (s:MSh)(b:Nat)(m:PMm)(A:MemA):HP:=bk b 130 (memCells s A m.count)*(heapH A.bh m.words*(tabH A.bt m.locks s.wide*(clkH A.bc m.clock*epH A.bs m.since)))
def memH (s:MSh)(b:Nat)(m:PMm):HP:=ex fun A:MemA=>memHA s b m A
structure PMm.fits (m:PMm):Prop where
 words:m.words.length≤1000
 locks:m.locks.length≤1000
 since:m.since.length≤1000
section
variable {ω w : World} {F : HP} {s : MSh} {b : Nat} {m : PMm} {A : MemA}
theorem As:memHA s b m A*F=heapH A.bh m.words*(bk b 130 (memCells s A m.count)*(tabH A.bt m.locks s.wide*(clkH A.bc m.clock*epH A.bs m.since))*F):=by
 unfold memHA;ac_rfl
theorem BG:memHA s b m A*F=tabH A.bt m.locks s.wide*(bk b 130 (memCells s A m.count)*(heapH A.bh m.words*(clkH A.bc m.clock*epH A.bs m.since))*F):=by
 unfold memHA;ac_rfl
theorem CE:memHA s b m A*F=clkH A.bc m.clock*(bk b 130 (memCells s A m.count)*(heapH A.bh m.words*(tabH A.bt m.locks s.wide*epH A.bs m.since))*F):=by
 unfold memHA;ac_rfl
theorem Cu:memHA s b m A*F=epH A.bs m.since*(bk b 130 (memCells s A m.count)*(heapH A.bh m.words*(tabH A.bt m.locks s.wide*clkH A.bc m.clock))*F):=by
 unfold memHA;ac_rfl
theorem AI:memHA s b m A*F=bk b 130 (memCells s A m.count)*((heapH A.bh m.words*(tabH A.bt m.locks s.wide*(clkH A.bc m.clock*epH A.bs m.since)))*F):=by
 unfold memHA;ac_rfl
end
section
variable (ω w : World) (F : HP)
theorem Kd (b:Nat)(ws:List Nat)(h:Sat ω w (heapH b ws*F))(hn:ws.length≤1000)(at_:Nat)(ha:at_≤1000000):
  Calls prog 81 #[.pointer b,at_] w (Rets ω F (.tuple #[υ (if 1≤at_∧at_<ws.length then ws.getD at_ 0 else 0:Nat),(if 1≤at_∧at_<ws.length then 0 else 2:Nat)]) (heapH b ws)) :=
 (Nc ω w F b ws h hn at_ ha).mono fun e w' h1=>⟨h1.1,h1.2▸h⟩
theorem QF (b:Nat)(ws:List Nat)(h:Sat ω w (epH b ws*F))(hn:ws.length≤1000)(at_:Nat)(ha:at_≤1000000):
  Calls prog 88 #[.pointer b,at_] w (Rets ω F (.tuple #[υ (if at_<ws.length then ws.getD at_ 0 else 0:Nat),(if at_<ws.length then 0 else 2:Nat)]) (epH b ws)) :=
 (Sk ω w F b ws h hn at_ ha).mono fun e w' h1=>⟨h1.1,h1.2▸h⟩
theorem Mb (b:Nat)(ls:List PLk)(wide:Nat)(h:Sat ω w (tabH b ls wide*F))(hn:ls.length≤1000)(at_:Nat)(ha:at_≤1000000):
  Calls prog 83 #[.pointer b,at_] w (Rets ω F (.tuple #[lkA (if at_<ls.length then ls.getD at_ PLk.zero else PLk.zero),(if at_<ls.length then 0 else 2:Nat)]) (tabH b ls wide)) :=
 (Oi ω w F b ls wide h hn at_ ha).mono fun e w' h1=>⟨h1.1,h.nob h1.2⟩
theorem Nx (b n:Nat)(h:Sat ω w (clkH b n*F)):
  Calls prog 86 #[.pointer b] w (Rets ω F (.int .u64 n) (clkH b n)) :=
 (Qg w b n (h.blk.cell 0)).mono fun e w' h1=>⟨h1.1,h1.2▸h⟩
def casN (n old now:Nat):Bool×Nat×Nat :=
 if now≤old then(false,1,n) else if 4611686018427387904≤now then(false,7,n) else if n=old then(true,0,now) else(false,0,n)
theorem US (n old now:Nat):casE n old now=((casN n old now).1,((casN n old now).2.1:Int),((casN n old now).2.2:Int)):=by
 unfold casE casN;by_cases h1:now≤old
 ·rw[if_pos h1,if_pos (by omega)];rfl
 ·rw[if_neg h1,if_neg (by omega)]
  by_cases h2:4611686018427387904≤now
  ·rw[if_pos h2,if_pos (by omega)];rfl
  ·rw[if_neg h2,if_neg (by omega)]
   by_cases h3:n=old
   ·rw[if_pos h3,if_pos (by omega)];rfl
   ·rw[if_neg h3,if_neg (by omega)];rfl
theorem OB {n old now:Nat}(h:(casN n old now).1=false):(casN n old now).2.2=n:=by
 unfold casN at h ⊢;split
 ·rfl
 ·split
  ·rfl
  ·split
   ·simp_all
   ·rfl
theorem Qk {n old now:Nat}(h:(casN n old now).1=true):(casN n old now).2.2=now:=by
 unfold casN at h ⊢;split
 ·simp_all
 ·split
  ·simp_all
  ·split
   ·rfl
   ·simp_all
theorem Qh (b n old now:Nat)(h:Sat ω w (clkH b n*F)):
  Calls prog 87 #[.pointer b,υ old,υ now] w (Rets ω F (.tuple #[.bool (casN n old now).1,((casN n old now).2.1:Int)]) (clkH b (casN n old now).2.2)):=by
 refine(Su w b n old now (h.blk.cell 0) (h.blk.frozen 0)).mono fun e w' h1=>?_
 obtain⟨h2,h3⟩:=h1;rw[US] at h2 h3;refine⟨h2,?_⟩;simp only at h3;by_cases hc:(casN n old now).1=true
 ·rw[if_pos hc] at h3;rw[h3,Qk hc];exact h.put 0 _ rfl
 ·rw[if_neg hc] at h3;rw[h3,OB (by simpa using hc)]
  exact h
end
theorem Sm (ω w:World)(F:HP)(s:MSh)(b:Nat)(m:PMm)(A:MemA)(h:Sat ω w (memHA s b m A*F))(hf:m.fits)(o:POp)(ho:o.at_≤1000000)(hk:o.kind=1):
  Calls prog 55 #[.pointer b,opA o] w (Rets ω F (ansA (doM m o).1) (memHA s b (doM m o).2 A)):=by
 obtain⟨kind,at_,old,word,⟨wv,wh,wo⟩,⟨lv,lh,lo⟩⟩:=o;simp only at hk ho;subst hk;have h5:=h.perm AI;have c5:w.cell? (κ b 5)=some (.pointer A.bh):=h5.blk.cell 5;have hb:=h5.blk.lt;have hb1:b<w.heap.size+1:=by omega
 have hb2:b<w.heap.size+1+1:=by omega
 obtain⟨R,hR⟩:∃R,R=bk b 130 (memCells s A m.count)*(tabH A.bt m.locks s.wide*(clkH A.bc m.clock*epH A.bs m.since))*F:=⟨_,rfl⟩;have h1:=((h.perm As).junk (.cells #[ι 1,at_,υ old,υ word,υ wv,.bool wh,wo,υ lv,.bool lh,lo] 95)).new ζ 100 |>.new ζ 100
 simp only[World.size_alloc] at h1;rw[←hR] at h1;have H1:=h_ ((h1.perm (by ac_rfl):Sat ω _ (heapH A.bh m.words*(bk (w.heap.size+1+1) 100 ζ*(bk (w.heap.size+1) 100 ζ*R)))))
 have HR:Hid (doM m ⟨1,at_,old,word,⟨wv,wh,wo⟩,⟨lv,lh,lo⟩⟩=({PAns.zero with word:=if 1≤at_∧at_<m.words.length then m.words.getD at_ 0 else 0,err:=if 1≤at_∧at_<m.words.length then 0 else 2},m)):=h_ (by
  unfold doM;simp only;by_cases h1:1≤at_∧at_<m.words.length
  ·simp only[if_pos h1]<;>rfl
  ·simp only[if_neg h1]<;>rfl)
 rw[HR.o];have HL:=h_ (fun w1 F1 (h1:Sat ω w1 (heapH A.bh m.words*F1))=>Kd ω w1 F1 A.bh m.words h1 hf.words at_ ho)
 generalize (if 1≤at_∧at_<m.words.length then m.words.getD at_ 0 else 0)=x at *
 generalize (if 1≤at_∧at_<m.words.length then 0 else 2)=y at *
 clear h h5 h1 HR;have HF:Hid (∀w1,Sat ω w1 (heapH A.bh m.words*R)→Sat ω w1 (memHA s b m A*F)):=h_ (fun w1 h1=>by
  rw[hR] at h1;exact h1.perm (As (m:=m)).symm)
 clear hR;simp only[opA,ansA,PAns.zero,PLk.zero,lkA] at HL ⊢;go_enter func55,ntmps55;go_wp2;refine Ay 6 #[true,true,true,true,true,true,false,false,false,false,false,false,false,false] (by kernel_rfl) (by kernel_rfl) ?_
 simp only[List.take_succ_cons,List.take_zero];repeat still_step
 refine wpStill_nil ?_;refine oF 6 rfl fun K hK=>?_
 go_simp
 (go_at_call 81;refine(HL.o _ _ (by repeat' (first|(with_reducible first|exact H1.o|refine Sat.drewN ?_ _|refine Sat.drew ?_)))).mono ?_;rintro e w1 ⟨rfl,hs⟩;have k:=hs.right.blk;obtain⟨k0,k1,k2,k3,k4,k5⟩:=k.six;have kf:=k.frozen;have kl:=k.lt;have q:=hs.right.right.blk;obtain⟨q0,q1,q2,q3,q4,q5⟩:=q.six;have qf:=q.frozen;have ql:=q.lt;have HS:=h_ ((hs.perm (by ac_rfl):Sat ω w1 (bk (w.heap.size+1+1) 100 ζ*(bk (w.heap.size+1) 100 ζ*(heapH A.bh m.words*R)))).jk2);clear k q hs)
 refine hK _ _ ?_;clear hK K;refine tF 7 ?_ rfl ?_ (tF 8 ?_ rfl ?_ (tF 9 ?_ rfl ?_ (tF 10 ?_ rfl ?_ ?_)));all_goals (try (
  intro w;go_simp<;>(try with_reducible rfl)))
 refine oF 11 rfl fun K hK=>?_
 go_simp;refine hK _ _ ?_;clear hK K;refine tF 12 ?_ rfl ?_ ?_;all_goals (try (
  intro w;go_simp<;>(try with_reducible rfl)))
 refine oF 13 rfl fun K hK=>?_
 go_simp;refine hK _ _ ?_;clear hK K;refine dF ?_;go_wp2;refine bodyPost_ret (v:=.agg #[υ x,υ 0,.bool false,ι 0,.bool false,y]) (by simp[results,results55,go_sem, *]) rfl ⟨rfl,?_⟩
 refine HF.o _ (Sat.right (P:=jk (fun k=>k=w.heap.size+1+1∨k=w.heap.size+1)) ?_)
 repeat' (first|(with_reducible first|exact HS.o|refine Sat.setJ ?_ ?_ _|refine Sat.drew ?_|refine Sat.drewN ?_ _)|exact .inl rfl|exact .inr rfl)
theorem Ki (ω w:World)(F:HP)(s:MSh)(b:Nat)(m:PMm)(A:MemA)(h:Sat ω w (memHA s b m A*F))(hf:m.fits)(o:POp)(ho:o.at_≤1000000)(hk:o.kind=2):
  Calls prog 55 #[.pointer b,opA o] w (Rets ω F (ansA (doM m o).1) (memHA s b (doM m o).2 A)):=by
 obtain⟨kind,at_,old,word,⟨wv,wh,wo⟩,⟨lv,lh,lo⟩⟩:=o;simp only at hk ho;subst hk;have h5:=h.perm AI;have c5:w.cell? (κ b 5)=some (.pointer A.bh):=h5.blk.cell 5;have hb:=h5.blk.lt;have hb1:b<w.heap.size+1:=by omega
 have hb2:b<w.heap.size+1+1:=by omega
 obtain⟨R,hR⟩:∃R,R=bk b 130 (memCells s A m.count)*(tabH A.bt m.locks s.wide*(clkH A.bc m.clock*epH A.bs m.since))*F:=⟨_,rfl⟩;have h1:=((h.perm As).junk (.cells #[ι 2,at_,υ old,υ word,υ wv,.bool wh,wo,υ lv,.bool lh,lo] 95)).new ζ 100 |>.new ζ 100
 simp only[World.size_alloc] at h1;rw[←hR] at h1;have H1:=h_ ((h1.perm (by ac_rfl):Sat ω _ (heapH A.bh m.words*(bk (w.heap.size+1+1) 100 ζ*(bk (w.heap.size+1) 100 ζ*R)))))
 have HR:Hid (doM m ⟨2,at_,old,word,⟨wv,wh,wo⟩,⟨lv,lh,lo⟩⟩=({PAns.zero with err:=if 1≤at_∧at_<m.words.length then 0 else 2},{m with words:=(if 1≤at_∧at_<m.words.length then m.words.set at_ word else m.words)})):=h_ (by
  unfold doM;simp only;by_cases h1:1≤at_∧at_<m.words.length
  ·simp only[if_pos h1]<;>rfl
  ·simp only[if_neg h1]<;>rfl)
 rw[HR.o];have HL:=h_ (fun w1 F1 (h1:Sat ω w1 (heapH A.bh m.words*F1))=>Kc ω w1 F1 A.bh m.words h1 hf.words at_ word ho)
 generalize (if 1≤at_∧at_<m.words.length then m.words.set at_ word else m.words)=ws at *
 generalize (if 1≤at_∧at_<m.words.length then 0 else 2)=y at *
 clear h h5 h1 HR;have HF:Hid (∀w1,Sat ω w1 (heapH A.bh ws*R)→Sat ω w1 (memHA s b {m with words:=ws} A*F)):=h_ (fun w1 h1=>by
  rw[hR] at h1;exact h1.perm (As (m:={m with words:=ws})).symm)
 clear hR;simp only[opA,ansA,PAns.zero,PLk.zero,lkA] at HL ⊢;go_enter func55,ntmps55;go_wp2;refine rT 8 ?_;simp only[sD,sE,sF,sG];repeat still_step
 refine wpStill_nil ?_;go_wp2_with ((go_at_call 82;refine(HL.o _ _ (by repeat' (first|(with_reducible first|exact H1.o|refine Sat.drewN ?_ _|refine Sat.drew ?_)))).mono ?_;rintro e w1 ⟨rfl,hs⟩;have k:=hs.right.blk;obtain⟨k0,k1,k2,k3,k4,k5⟩:=k.six;have kf:=k.frozen;have kl:=k.lt;have q:=hs.right.right.blk;obtain⟨q0,q1,q2,q3,q4,q5⟩:=q.six;have qf:=q.frozen;have ql:=q.lt;have HS:=h_ ((hs.perm (by ac_rfl):Sat ω w1 (bk (w.heap.size+1+1) 100 ζ*(bk (w.heap.size+1) 100 ζ*(heapH A.bh ws*R)))).jk2);clear k q hs))
 refine bodyPost_ret (v:=.agg #[υ 0,υ 0,.bool false,ι 0,.bool false,y]) (by simp[results,results55,go_sem, *]) rfl ⟨rfl,?_⟩
 refine HF.o _ (Sat.right (P:=jk (fun k=>k=w.heap.size+1+1∨k=w.heap.size+1)) ?_)
 repeat' (first|(with_reducible first|exact HS.o|refine Sat.setJ ?_ ?_ _|refine Sat.drew ?_|refine Sat.drewN ?_ _)|exact .inl rfl|exact .inr rfl)
theorem Sn (ω w:World)(F:HP)(s:MSh)(b:Nat)(m:PMm)(A:MemA)(h:Sat ω w (memHA s b m A*F))(hf:m.fits)(o:POp)(ho:o.at_≤1000000)(hk:o.kind=3):
  Calls prog 55 #[.pointer b,opA o] w (Rets ω F (ansA (doM m o).1) (memHA s b (doM m o).2 A)):=by
 obtain⟨kind,at_,old,word,⟨wv,wh,wo⟩,⟨lv,lh,lo⟩⟩:=o;simp only at hk ho;subst hk;have h5:=h.perm AI;have c5:w.cell? (κ b 6)=some (.pointer A.bt):=h5.blk.cell 6;have hb:=h5.blk.lt;have hb1:b<w.heap.size+1:=by omega
 have hb2:b<w.heap.size+1+1:=by omega
 obtain⟨R,hR⟩:∃R,R=bk b 130 (memCells s A m.count)*(heapH A.bh m.words*(clkH A.bc m.clock*epH A.bs m.since))*F:=⟨_,rfl⟩;have h1:=((h.perm BG).junk (.cells #[ι 3,at_,υ old,υ word,υ wv,.bool wh,wo,υ lv,.bool lh,lo] 95)).new ζ 100 |>.new ζ 100
 simp only[World.size_alloc] at h1;rw[←hR] at h1;have H1:=h_ ((h1.perm (by ac_rfl):Sat ω _ (tabH A.bt m.locks s.wide*(bk (w.heap.size+1+1) 100 ζ*(bk (w.heap.size+1) 100 ζ*R)))))
 have HR:Hid (doM m ⟨3,at_,old,word,⟨wv,wh,wo⟩,⟨lv,lh,lo⟩⟩=({PAns.zero with lock:=if at_<m.locks.length then m.locks.getD at_ PLk.zero else PLk.zero,err:=if at_<m.locks.length then 0 else 2},m)):=h_ (by
  unfold doM;simp only;by_cases h1:at_<m.locks.length
  ·simp only[if_pos h1]<;>rfl
  ·simp only[if_neg h1]<;>rfl)
 rw[HR.o];have HL:=h_ (fun w1 F1 (h1:Sat ω w1 (tabH A.bt m.locks s.wide*F1))=>Mb ω w1 F1 A.bt m.locks s.wide h1 hf.locks at_ ho)
 generalize (if at_<m.locks.length then m.locks.getD at_ PLk.zero else PLk.zero)=x at *
 generalize (if at_<m.locks.length then 0 else 2)=y at *
 obtain⟨xv,xh,xo⟩:=x;clear h h5 h1 HR;have HF:Hid (∀w1,Sat ω w1 (tabH A.bt m.locks s.wide*R)→Sat ω w1 (memHA s b m A*F)):=h_ (fun w1 h1=>by
  rw[hR] at h1;exact h1.perm (BG (m:=m)).symm)
 clear hR;simp only[opA,ansA,PAns.zero,PLk.zero,lkA] at HL ⊢;go_enter func55,ntmps55;go_wp2;refine Ay 6 #[true,true,true,true,true,true,false,false,false,false,false,false,false,false] (by kernel_rfl) (by kernel_rfl) ?_
 simp only[List.take_succ_cons,List.take_zero];repeat still_step
 refine wpStill_nil ?_;refine oF 6 rfl fun K hK=>?_
 go_simp
 (go_at_call 83;refine(HL.o _ _ (by repeat' (first|(with_reducible first|exact H1.o|refine Sat.drewN ?_ _|refine Sat.drew ?_)))).mono ?_;rintro e w1 ⟨rfl,hs⟩;have k:=hs.right.blk;obtain⟨k0,k1,k2,k3,k4,k5⟩:=k.six;have kf:=k.frozen;have kl:=k.lt;have q:=hs.right.right.blk;obtain⟨q0,q1,q2,q3,q4,q5⟩:=q.six;have qf:=q.frozen;have ql:=q.lt;have HS:=h_ ((hs.perm (by ac_rfl):Sat ω w1 (bk (w.heap.size+1+1) 100 ζ*(bk (w.heap.size+1) 100 ζ*(tabH A.bt m.locks s.wide*R)))).jk2);clear k q hs)
 refine hK _ _ ?_;clear hK K;refine tF 7 ?_ rfl ?_ (tF 8 ?_ rfl ?_ (tF 9 ?_ rfl ?_ (tF 10 ?_ rfl ?_ ?_)));all_goals (try (
  intro w;go_simp<;>(try with_reducible rfl)))
 refine oF 11 rfl fun K hK=>?_
 go_simp;refine hK _ _ ?_;clear hK K;refine tF 12 ?_ rfl ?_ ?_;all_goals (try (
  intro w;go_simp<;>(try with_reducible rfl)))
 refine oF 13 rfl fun K hK=>?_
 go_simp;refine hK _ _ ?_;clear hK K;refine dF ?_;go_wp2;refine bodyPost_ret (v:=.agg #[υ 0,υ xv,.bool xh,xo,.bool false,y]) (by simp[results,results55,go_sem, *]) rfl ⟨rfl,?_⟩
 refine HF.o _ (Sat.right (P:=jk (fun k=>k=w.heap.size+1+1∨k=w.heap.size+1)) ?_)
 repeat' (first|(with_reducible first|exact HS.o|refine Sat.setJ ?_ ?_ _|refine Sat.drew ?_|refine Sat.drewN ?_ _)|exact .inl rfl|exact .inr rfl)
theorem Kk (ω w:World)(F:HP)(s:MSh)(b:Nat)(m:PMm)(A:MemA)(h:Sat ω w (memHA s b m A*F))(hf:m.fits)(o:POp)(ho:o.at_≤1000000)(hk:o.kind=4):
  Calls prog 55 #[.pointer b,opA o] w (Rets ω F (ansA (doM m o).1) (memHA s b (doM m o).2 A)):=by
 obtain⟨kind,at_,old,word,⟨wv,wh,wo⟩,⟨lv,lh,lo⟩⟩:=o;simp only at hk ho;subst hk;have h5:=h.perm AI;have c5:w.cell? (κ b 6)=some (.pointer A.bt):=h5.blk.cell 6;have hb:=h5.blk.lt;have hb1:b<w.heap.size+1:=by omega
 have hb2:b<w.heap.size+1+1:=by omega
 obtain⟨R,hR⟩:∃R,R=bk b 130 (memCells s A m.count)*(heapH A.bh m.words*(clkH A.bc m.clock*epH A.bs m.since))*F:=⟨_,rfl⟩;have h1:=((h.perm BG).junk (.cells #[ι 4,at_,υ old,υ word,υ wv,.bool wh,wo,υ lv,.bool lh,lo] 95)).new ζ 100 |>.new ζ 100
 simp only[World.size_alloc] at h1;rw[←hR] at h1;have H1:=h_ ((h1.perm (by ac_rfl):Sat ω _ (tabH A.bt m.locks s.wide*(bk (w.heap.size+1+1) 100 ζ*(bk (w.heap.size+1) 100 ζ*R)))))
 have HR:Hid (doM m ⟨4,at_,old,word,⟨wv,wh,wo⟩,⟨lv,lh,lo⟩⟩=({PAns.zero with done:=decide (mayE m.locks at_ ⟨lv,lh,lo⟩=0∧m.locks.getD at_ PLk.zero=⟨wv,wh,wo⟩),err:=mayE m.locks at_ ⟨lv,lh,lo⟩},{m with locks:=(if mayE m.locks at_ ⟨lv,lh,lo⟩=0∧m.locks.getD at_ PLk.zero=⟨wv,wh,wo⟩ then m.locks.set at_ ⟨lv,lh,lo⟩ else m.locks)})):=h_ (by
  unfold doM mayE;simp only;by_cases h1:at_<m.locks.length
  ·simp only[if_pos h1];by_cases h2:PLk.ok ⟨lv,lh,lo⟩=true
   ·simp only[if_pos h2];by_cases h3:m.locks.getD at_ PLk.zero=⟨wv,wh,wo⟩
    ·simp only[if_pos h3,h3];simp;rfl
    ·simp only[if_neg h3,h3];simp;rfl
   ·simp only[if_neg h2];simp;rfl
  ·simp only[if_neg h1];simp;rfl)
 rw[HR.o];have HL:=h_ (fun w1 F1 (h1:Sat ω w1 (tabH A.bt m.locks s.wide*F1))=>Rm ω w1 F1 A.bt m.locks s.wide h1 hf.locks at_ ho ⟨wv,wh,wo⟩ ⟨lv,lh,lo⟩)
 generalize (if mayE m.locks at_ ⟨lv,lh,lo⟩=0∧m.locks.getD at_ PLk.zero=⟨wv,wh,wo⟩ then m.locks.set at_ ⟨lv,lh,lo⟩ else m.locks)=ls at *
 generalize (decide (mayE m.locks at_ ⟨lv,lh,lo⟩=0∧m.locks.getD at_ PLk.zero=⟨wv,wh,wo⟩))=d at *
 generalize (mayE m.locks at_ ⟨lv,lh,lo⟩)=y at *
 clear h h5 h1 HR;have HF:Hid (∀w1,Sat ω w1 (tabH A.bt ls s.wide*R)→Sat ω w1 (memHA s b {m with locks:=ls} A*F)):=h_ (fun w1 h1=>by
  rw[hR] at h1;exact h1.perm (BG (m:={m with locks:=ls})).symm)
 clear hR;simp only[opA,ansA,PAns.zero,PLk.zero,lkA] at HL ⊢;go_enter func55,ntmps55;go_wp2;refine Ay 10 #[true,true,true,true,true,true,true,true,true,true,false,false,false,false,false,false,false,false] (by kernel_rfl) (by kernel_rfl) ?_
 simp only[List.take_succ_cons,List.take_zero];repeat still_step
 refine wpStill_nil ?_;refine oF 10 rfl fun K hK=>?_
 go_simp
 (go_at_call 84;refine(HL.o _ _ (by repeat' (first|(with_reducible first|exact H1.o|refine Sat.drewN ?_ _|refine Sat.drew ?_)))).mono ?_;rintro e w1 ⟨rfl,hs⟩;have k:=hs.right.blk;obtain⟨k0,k1,k2,k3,k4,k5⟩:=k.six;have kf:=k.frozen;have kl:=k.lt;have q:=hs.right.right.blk;obtain⟨q0,q1,q2,q3,q4,q5⟩:=q.six;have qf:=q.frozen;have ql:=q.lt;have HS:=h_ ((hs.perm (by ac_rfl):Sat ω w1 (bk (w.heap.size+1+1) 100 ζ*(bk (w.heap.size+1) 100 ζ*(tabH A.bt ls s.wide*R)))).jk2);clear k q hs)
 refine hK _ _ ?_;clear hK K;refine tF 11 ?_ rfl ?_ (tF 12 ?_ rfl ?_ (tF 13 ?_ rfl ?_ (tF 14 ?_ rfl ?_ ?_)));all_goals (try (
  intro w;go_simp<;>(try with_reducible rfl)))
 refine oF 15 rfl fun K hK=>?_
 go_simp;refine hK _ _ ?_;clear hK K;refine tF 16 ?_ rfl ?_ ?_;all_goals (try (
  intro w;go_simp<;>(try with_reducible rfl)))
 refine oF 17 rfl fun K hK=>?_
 go_simp;refine hK _ _ ?_;clear hK K;refine dF ?_;go_wp2;refine bodyPost_ret (v:=.agg #[υ 0,υ 0,.bool false,ι 0,.bool d,y]) (by simp[results,results55,go_sem, *]) rfl ⟨rfl,?_⟩
 refine HF.o _ (Sat.right (P:=jk (fun k=>k=w.heap.size+1+1∨k=w.heap.size+1)) ?_)
 repeat' (first|(with_reducible first|exact HS.o|refine Sat.setJ ?_ ?_ _|refine Sat.drew ?_|refine Sat.drewN ?_ _)|exact .inl rfl|exact .inr rfl)
theorem Kj (ω w:World)(F:HP)(s:MSh)(b:Nat)(m:PMm)(A:MemA)(h:Sat ω w (memHA s b m A*F))(hf:m.fits)(o:POp)(ho:o.at_≤1000000)(hk:o.kind=5):
  Calls prog 55 #[.pointer b,opA o] w (Rets ω F (ansA (doM m o).1) (memHA s b (doM m o).2 A)):=by
 obtain⟨kind,at_,old,word,⟨wv,wh,wo⟩,⟨lv,lh,lo⟩⟩:=o;simp only at hk ho;subst hk;have h5:=h.perm AI;have c5:w.cell? (κ b 6)=some (.pointer A.bt):=h5.blk.cell 6;have hb:=h5.blk.lt;have hb1:b<w.heap.size+1:=by omega
 have hb2:b<w.heap.size+1+1:=by omega
 obtain⟨R,hR⟩:∃R,R=bk b 130 (memCells s A m.count)*(heapH A.bh m.words*(clkH A.bc m.clock*epH A.bs m.since))*F:=⟨_,rfl⟩;have h1:=((h.perm BG).junk (.cells #[ι 5,at_,υ old,υ word,υ wv,.bool wh,wo,υ lv,.bool lh,lo] 95)).new ζ 100 |>.new ζ 100
 simp only[World.size_alloc] at h1;rw[←hR] at h1;have H1:=h_ ((h1.perm (by ac_rfl):Sat ω _ (tabH A.bt m.locks s.wide*(bk (w.heap.size+1+1) 100 ζ*(bk (w.heap.size+1) 100 ζ*R)))))
 have HR:Hid (doM m ⟨5,at_,old,word,⟨wv,wh,wo⟩,⟨lv,lh,lo⟩⟩=({PAns.zero with err:=mayE m.locks at_ ⟨lv,lh,lo⟩},{m with locks:=(if mayE m.locks at_ ⟨lv,lh,lo⟩=0 then m.locks.set at_ ⟨lv,lh,lo⟩ else m.locks)})):=h_ (by
  unfold doM mayE;simp only;by_cases h1:at_<m.locks.length
  ·simp only[if_pos h1];by_cases h2:PLk.ok ⟨lv,lh,lo⟩=true
   ·simp only[if_pos h2];simp;rfl
   ·simp only[if_neg h2];simp
  ·simp only[if_neg h1];simp)
 rw[HR.o];have HL:=h_ (fun w1 F1 (h1:Sat ω w1 (tabH A.bt m.locks s.wide*F1))=>Ma ω w1 F1 A.bt m.locks s.wide h1 hf.locks at_ ho ⟨lv,lh,lo⟩)
 generalize (if mayE m.locks at_ ⟨lv,lh,lo⟩=0 then m.locks.set at_ ⟨lv,lh,lo⟩ else m.locks)=ls at *
 generalize (mayE m.locks at_ ⟨lv,lh,lo⟩)=y at *
 clear h h5 h1 HR;have HF:Hid (∀w1,Sat ω w1 (tabH A.bt ls s.wide*R)→Sat ω w1 (memHA s b {m with locks:=ls} A*F)):=h_ (fun w1 h1=>by
  rw[hR] at h1;exact h1.perm (BG (m:={m with locks:=ls})).symm)
 clear hR;simp only[opA,ansA,PAns.zero,PLk.zero,lkA] at HL ⊢;go_enter func55,ntmps55;go_wp2;refine rT 8 ?_;simp only[sD,sE,sF,sG];repeat still_step
 refine wpStill_nil ?_;go_wp2_with ((go_at_call 85;refine(HL.o _ _ (by repeat' (first|(with_reducible first|exact H1.o|refine Sat.drewN ?_ _|refine Sat.drew ?_)))).mono ?_;rintro e w1 ⟨rfl,hs⟩;have k:=hs.right.blk;obtain⟨k0,k1,k2,k3,k4,k5⟩:=k.six;have kf:=k.frozen;have kl:=k.lt;have q:=hs.right.right.blk;obtain⟨q0,q1,q2,q3,q4,q5⟩:=q.six;have qf:=q.frozen;have ql:=q.lt;have HS:=h_ ((hs.perm (by ac_rfl):Sat ω w1 (bk (w.heap.size+1+1) 100 ζ*(bk (w.heap.size+1) 100 ζ*(tabH A.bt ls s.wide*R)))).jk2);clear k q hs))
 refine bodyPost_ret (v:=.agg #[υ 0,υ 0,.bool false,ι 0,.bool false,y]) (by simp[results,results55,go_sem, *]) rfl ⟨rfl,?_⟩
 refine HF.o _ (Sat.right (P:=jk (fun k=>k=w.heap.size+1+1∨k=w.heap.size+1)) ?_)
 repeat' (first|(with_reducible first|exact HS.o|refine Sat.setJ ?_ ?_ _|refine Sat.drew ?_|refine Sat.drewN ?_ _)|exact .inl rfl|exact .inr rfl)
theorem QI (ω w:World)(F:HP)(s:MSh)(b:Nat)(m:PMm)(A:MemA)(h:Sat ω w (memHA s b m A*F))(hf:m.fits)(o:POp)(ho:o.at_≤1000000)(hk:o.kind=6):
  Calls prog 55 #[.pointer b,opA o] w (Rets ω F (ansA (doM m o).1) (memHA s b (doM m o).2 A)):=by
 obtain⟨kind,at_,old,word,⟨wv,wh,wo⟩,⟨lv,lh,lo⟩⟩:=o;simp only at hk ho;subst hk;have h5:=h.perm AI;have c5:w.cell? (κ b 7)=some (.pointer A.bc):=h5.blk.cell 7;have hb:=h5.blk.lt;have hb1:b<w.heap.size+1:=by omega
 have hb2:b<w.heap.size+1+1:=by omega
 obtain⟨R,hR⟩:∃R,R=bk b 130 (memCells s A m.count)*(heapH A.bh m.words*(tabH A.bt m.locks s.wide*epH A.bs m.since))*F:=⟨_,rfl⟩;have h1:=((h.perm CE).junk (.cells #[ι 6,at_,υ old,υ word,υ wv,.bool wh,wo,υ lv,.bool lh,lo] 95)).new ζ 100 |>.new ζ 100
 simp only[World.size_alloc] at h1;rw[←hR] at h1;have H1:=h_ ((h1.perm (by ac_rfl):Sat ω _ (clkH A.bc m.clock*(bk (w.heap.size+1+1) 100 ζ*(bk (w.heap.size+1) 100 ζ*R)))))
 have HR:Hid (doM m ⟨6,at_,old,word,⟨wv,wh,wo⟩,⟨lv,lh,lo⟩⟩=({PAns.zero with word:=m.clock},m)):=h_ (by rfl)
 rw[HR.o];have HL:=h_ (fun w1 F1 (h1:Sat ω w1 (clkH A.bc m.clock*F1))=>Nx ω w1 F1 A.bc m.clock h1)
 clear h h5 h1 HR;have HF:Hid (∀w1,Sat ω w1 (clkH A.bc m.clock*R)→Sat ω w1 (memHA s b m A*F)):=h_ (fun w1 h1=>by
  rw[hR] at h1;exact h1.perm (CE (m:=m)).symm)
 clear hR;simp only[opA,ansA,PAns.zero,PLk.zero,lkA] at HL ⊢;go_enter func55,ntmps55;go_wp2_with ((go_at_call 86;refine(HL.o _ _ (by repeat' (first|(with_reducible first|exact H1.o|refine Sat.drewN ?_ _|refine Sat.drew ?_)))).mono ?_;rintro e w1 ⟨rfl,hs⟩;have k:=hs.right.blk;obtain⟨k0,k1,k2,k3,k4,k5⟩:=k.six;have kf:=k.frozen;have kl:=k.lt;have q:=hs.right.right.blk;obtain⟨q0,q1,q2,q3,q4,q5⟩:=q.six;have qf:=q.frozen;have ql:=q.lt;have HS:=h_ ((hs.perm (by ac_rfl):Sat ω w1 (bk (w.heap.size+1+1) 100 ζ*(bk (w.heap.size+1) 100 ζ*(clkH A.bc m.clock*R)))).jk2);clear k q hs))
 refine bodyPost_ret (v:=.agg #[υ m.clock,υ 0,.bool false,ι 0,.bool false,ι 0]) (by simp[results,results55,go_sem, *]) rfl ⟨rfl,?_⟩
 refine HF.o _ (Sat.right (P:=jk (fun k=>k=w.heap.size+1+1∨k=w.heap.size+1)) ?_)
 repeat' (first|(with_reducible first|exact HS.o|refine Sat.setJ ?_ ?_ _|refine Sat.drew ?_|refine Sat.drewN ?_ _)|exact .inl rfl|exact .inr rfl)
theorem Ir (ω w:World)(F:HP)(s:MSh)(b:Nat)(m:PMm)(A:MemA)(h:Sat ω w (memHA s b m A*F))(hf:m.fits)(o:POp)(ho:o.at_≤1000000)(hk:o.kind=7):
  Calls prog 55 #[.pointer b,opA o] w (Rets ω F (ansA (doM m o).1) (memHA s b (doM m o).2 A)):=by
 obtain⟨kind,at_,old,word,⟨wv,wh,wo⟩,⟨lv,lh,lo⟩⟩:=o;simp only at hk ho;subst hk;have h5:=h.perm AI;have c5:w.cell? (κ b 7)=some (.pointer A.bc):=h5.blk.cell 7;have hb:=h5.blk.lt;have hb1:b<w.heap.size+1:=by omega
 have hb2:b<w.heap.size+1+1:=by omega
 obtain⟨R,hR⟩:∃R,R=bk b 130 (memCells s A m.count)*(heapH A.bh m.words*(tabH A.bt m.locks s.wide*epH A.bs m.since))*F:=⟨_,rfl⟩;have h1:=((h.perm CE).junk (.cells #[ι 7,at_,υ old,υ word,υ wv,.bool wh,wo,υ lv,.bool lh,lo] 95)).new ζ 100 |>.new ζ 100
 simp only[World.size_alloc] at h1;rw[←hR] at h1;have H1:=h_ ((h1.perm (by ac_rfl):Sat ω _ (clkH A.bc m.clock*(bk (w.heap.size+1+1) 100 ζ*(bk (w.heap.size+1) 100 ζ*R)))))
 have HR:Hid (doM m ⟨7,at_,old,word,⟨wv,wh,wo⟩,⟨lv,lh,lo⟩⟩=({PAns.zero with done:=(casN m.clock old word).1,err:=(casN m.clock old word).2.1},{m with clock:=(casN m.clock old word).2.2})):=h_ (by
  unfold doM casN;simp only;by_cases h1:word≤old
  ·simp only[if_pos h1]<;>rfl
  ·simp only[if_neg h1];by_cases h2:4611686018427387904≤word
   ·simp only[if_pos h2];rfl
   ·simp only[if_neg h2];by_cases h3:m.clock=old
    ·simp only[if_pos h3];rfl
    ·simp only[if_neg h3];rfl)
 rw[HR.o];have HL:=h_ (fun w1 F1 (h1:Sat ω w1 (clkH A.bc m.clock*F1))=>Qh ω w1 F1 A.bc m.clock old word h1)
 generalize (casN m.clock old word).1=d at *
 generalize (casN m.clock old word).2.1=y at *
 generalize (casN m.clock old word).2.2=r3 at *
 clear h h5 h1 HR;have HF:Hid (∀w1,Sat ω w1 (clkH A.bc r3*R)→Sat ω w1 (memHA s b {m with clock:=r3} A*F)):=h_ (fun w1 h1=>by
  rw[hR] at h1;exact h1.perm (CE (m:={m with clock:=r3})).symm)
 clear hR;simp only[opA,ansA,PAns.zero,PLk.zero,lkA] at HL ⊢;go_enter func55,ntmps55;go_wp2;refine Ay 8 #[true,true,true,true,true,true,true,true,false,false,false,false,false,false,false,false] (by kernel_rfl) (by kernel_rfl) ?_
 simp only[List.take_succ_cons,List.take_zero];repeat still_step
 refine wpStill_nil ?_;refine oF 8 rfl fun K hK=>?_
 go_simp
 (go_at_call 87;refine(HL.o _ _ (by repeat' (first|(with_reducible first|exact H1.o|refine Sat.drewN ?_ _|refine Sat.drew ?_)))).mono ?_;rintro e w1 ⟨rfl,hs⟩;have k:=hs.right.blk;obtain⟨k0,k1,k2,k3,k4,k5⟩:=k.six;have kf:=k.frozen;have kl:=k.lt;have q:=hs.right.right.blk;obtain⟨q0,q1,q2,q3,q4,q5⟩:=q.six;have qf:=q.frozen;have ql:=q.lt;have HS:=h_ ((hs.perm (by ac_rfl):Sat ω w1 (bk (w.heap.size+1+1) 100 ζ*(bk (w.heap.size+1) 100 ζ*(clkH A.bc r3*R)))).jk2);clear k q hs)
 refine hK _ _ ?_;clear hK K;refine tF 9 ?_ rfl ?_ (tF 10 ?_ rfl ?_ (tF 11 ?_ rfl ?_ (tF 12 ?_ rfl ?_ ?_)));all_goals (try (
  intro w;go_simp<;>(try with_reducible rfl)))
 refine oF 13 rfl fun K hK=>?_
 go_simp;refine hK _ _ ?_;clear hK K;refine tF 14 ?_ rfl ?_ ?_;all_goals (try (
  intro w;go_simp<;>(try with_reducible rfl)))
 refine oF 15 rfl fun K hK=>?_
 go_simp;refine hK _ _ ?_;clear hK K;refine dF ?_;go_wp2;refine bodyPost_ret (v:=.agg #[υ 0,υ 0,.bool false,ι 0,.bool d,y]) (by simp[results,results55,go_sem, *]) rfl ⟨rfl,?_⟩
 refine HF.o _ (Sat.right (P:=jk (fun k=>k=w.heap.size+1+1∨k=w.heap.size+1)) ?_)
 repeat' (first|(with_reducible first|exact HS.o|refine Sat.setJ ?_ ?_ _|refine Sat.drew ?_|refine Sat.drewN ?_ _)|exact .inl rfl|exact .inr rfl)
theorem QH (ω w:World)(F:HP)(s:MSh)(b:Nat)(m:PMm)(A:MemA)(h:Sat ω w (memHA s b m A*F))(hf:m.fits)(o:POp)(ho:o.at_≤1000000)(hk:o.kind=8):
  Calls prog 55 #[.pointer b,opA o] w (Rets ω F (ansA (doM m o).1) (memHA s b (doM m o).2 A)):=by
 obtain⟨kind,at_,old,word,⟨wv,wh,wo⟩,⟨lv,lh,lo⟩⟩:=o;simp only at hk ho;subst hk;have h5:=h.perm AI;have c5:w.cell? (κ b 8)=some (.pointer A.bs):=h5.blk.cell 8;have hb:=h5.blk.lt;have hb1:b<w.heap.size+1:=by omega
 have hb2:b<w.heap.size+1+1:=by omega
 obtain⟨R,hR⟩:∃R,R=bk b 130 (memCells s A m.count)*(heapH A.bh m.words*(tabH A.bt m.locks s.wide*clkH A.bc m.clock))*F:=⟨_,rfl⟩;have h1:=((h.perm Cu).junk (.cells #[ι 8,at_,υ old,υ word,υ wv,.bool wh,wo,υ lv,.bool lh,lo] 95)).new ζ 100 |>.new ζ 100
 simp only[World.size_alloc] at h1;rw[←hR] at h1;have H1:=h_ ((h1.perm (by ac_rfl):Sat ω _ (epH A.bs m.since*(bk (w.heap.size+1+1) 100 ζ*(bk (w.heap.size+1) 100 ζ*R)))))
 have HR:Hid (doM m ⟨8,at_,old,word,⟨wv,wh,wo⟩,⟨lv,lh,lo⟩⟩=({PAns.zero with word:=if at_<m.since.length then m.since.getD at_ 0 else 0,err:=if at_<m.since.length then 0 else 2},m)):=h_ (by
  unfold doM;simp only;by_cases h1:at_<m.since.length
  ·simp only[if_pos h1]<;>rfl
  ·simp only[if_neg h1]<;>rfl)
 rw[HR.o];have HL:=h_ (fun w1 F1 (h1:Sat ω w1 (epH A.bs m.since*F1))=>QF ω w1 F1 A.bs m.since h1 hf.since at_ ho)
 generalize (if at_<m.since.length then m.since.getD at_ 0 else 0)=x at *
 generalize (if at_<m.since.length then 0 else 2)=y at *
 clear h h5 h1 HR;have HF:Hid (∀w1,Sat ω w1 (epH A.bs m.since*R)→Sat ω w1 (memHA s b m A*F)):=h_ (fun w1 h1=>by
  rw[hR] at h1;exact h1.perm (Cu (m:=m)).symm)
 clear hR;simp only[opA,ansA,PAns.zero,PLk.zero,lkA] at HL ⊢;go_enter func55,ntmps55;go_wp2;refine Ay 6 #[true,true,true,true,true,true,false,false,false,false,false,false,false,false] (by kernel_rfl) (by kernel_rfl) ?_
 simp only[List.take_succ_cons,List.take_zero];repeat still_step
 refine wpStill_nil ?_;refine oF 6 rfl fun K hK=>?_
 go_simp
 (go_at_call 88;refine(HL.o _ _ (by repeat' (first|(with_reducible first|exact H1.o|refine Sat.drewN ?_ _|refine Sat.drew ?_)))).mono ?_;rintro e w1 ⟨rfl,hs⟩;have k:=hs.right.blk;obtain⟨k0,k1,k2,k3,k4,k5⟩:=k.six;have kf:=k.frozen;have kl:=k.lt;have q:=hs.right.right.blk;obtain⟨q0,q1,q2,q3,q4,q5⟩:=q.six;have qf:=q.frozen;have ql:=q.lt;have HS:=h_ ((hs.perm (by ac_rfl):Sat ω w1 (bk (w.heap.size+1+1) 100 ζ*(bk (w.heap.size+1) 100 ζ*(epH A.bs m.since*R)))).jk2);clear k q hs)
 refine hK _ _ ?_;clear hK K;refine tF 7 ?_ rfl ?_ (tF 8 ?_ rfl ?_ (tF 9 ?_ rfl ?_ (tF 10 ?_ rfl ?_ ?_)));all_goals (try (
  intro w;go_simp<;>(try with_reducible rfl)))
 refine oF 11 rfl fun K hK=>?_
 go_simp;refine hK _ _ ?_;clear hK K;refine tF 12 ?_ rfl ?_ ?_;all_goals (try (
  intro w;go_simp<;>(try with_reducible rfl)))
 refine oF 13 rfl fun K hK=>?_
 go_simp;refine hK _ _ ?_;clear hK K;refine dF ?_;go_wp2;refine bodyPost_ret (v:=.agg #[υ x,υ 0,.bool false,ι 0,.bool false,y]) (by simp[results,results55,go_sem, *]) rfl ⟨rfl,?_⟩
 refine HF.o _ (Sat.right (P:=jk (fun k=>k=w.heap.size+1+1∨k=w.heap.size+1)) ?_)
 repeat' (first|(with_reducible first|exact HS.o|refine Sat.setJ ?_ ?_ _|refine Sat.drew ?_|refine Sat.drewN ?_ _)|exact .inl rfl|exact .inr rfl)
theorem Ip (ω w:World)(F:HP)(s:MSh)(b:Nat)(m:PMm)(A:MemA)(h:Sat ω w (memHA s b m A*F))(hf:m.fits)(o:POp)(ho:o.at_≤1000000)(hk:o.kind=9):
  Calls prog 55 #[.pointer b,opA o] w (Rets ω F (ansA (doM m o).1) (memHA s b (doM m o).2 A)):=by
 obtain⟨kind,at_,old,word,⟨wv,wh,wo⟩,⟨lv,lh,lo⟩⟩:=o;simp only at hk ho;subst hk;have h5:=h.perm AI;have c5:w.cell? (κ b 8)=some (.pointer A.bs):=h5.blk.cell 8;have hb:=h5.blk.lt;have hb1:b<w.heap.size+1:=by omega
 have hb2:b<w.heap.size+1+1:=by omega
 obtain⟨R,hR⟩:∃R,R=bk b 130 (memCells s A m.count)*(heapH A.bh m.words*(tabH A.bt m.locks s.wide*clkH A.bc m.clock))*F:=⟨_,rfl⟩;have h1:=((h.perm Cu).junk (.cells #[ι 9,at_,υ old,υ word,υ wv,.bool wh,wo,υ lv,.bool lh,lo] 95)).new ζ 100 |>.new ζ 100
 simp only[World.size_alloc] at h1;rw[←hR] at h1;have H1:=h_ ((h1.perm (by ac_rfl):Sat ω _ (epH A.bs m.since*(bk (w.heap.size+1+1) 100 ζ*(bk (w.heap.size+1) 100 ζ*R)))))
 have HR:Hid (doM m ⟨9,at_,old,word,⟨wv,wh,wo⟩,⟨lv,lh,lo⟩⟩=({PAns.zero with err:=if at_<m.since.length then 0 else 2},{m with since:=(if at_<m.since.length then m.since.set at_ word else m.since)})):=h_ (by
  unfold doM;simp only;by_cases h1:at_<m.since.length
  ·simp only[if_pos h1]<;>rfl
  ·simp only[if_neg h1]<;>rfl)
 rw[HR.o];have HL:=h_ (fun w1 F1 (h1:Sat ω w1 (epH A.bs m.since*F1))=>QE ω w1 F1 A.bs m.since h1 hf.since at_ word ho)
 generalize (if at_<m.since.length then m.since.set at_ word else m.since)=ws at *
 generalize (if at_<m.since.length then 0 else 2)=y at *
 clear h h5 h1 HR;have HF:Hid (∀w1,Sat ω w1 (epH A.bs ws*R)→Sat ω w1 (memHA s b {m with since:=ws} A*F)):=h_ (fun w1 h1=>by
  rw[hR] at h1;exact h1.perm (Cu (m:={m with since:=ws})).symm)
 clear hR;simp only[opA,ansA,PAns.zero,PLk.zero,lkA] at HL ⊢;go_enter func55,ntmps55;go_wp2;refine rT 8 ?_;simp only[sD,sE,sF,sG];repeat still_step
 refine wpStill_nil ?_;go_wp2_with ((go_at_call 89;refine(HL.o _ _ (by repeat' (first|(with_reducible first|exact H1.o|refine Sat.drewN ?_ _|refine Sat.drew ?_)))).mono ?_;rintro e w1 ⟨rfl,hs⟩;have k:=hs.right.blk;obtain⟨k0,k1,k2,k3,k4,k5⟩:=k.six;have kf:=k.frozen;have kl:=k.lt;have q:=hs.right.right.blk;obtain⟨q0,q1,q2,q3,q4,q5⟩:=q.six;have qf:=q.frozen;have ql:=q.lt;have HS:=h_ ((hs.perm (by ac_rfl):Sat ω w1 (bk (w.heap.size+1+1) 100 ζ*(bk (w.heap.size+1) 100 ζ*(epH A.bs ws*R)))).jk2);clear k q hs))
 refine bodyPost_ret (v:=.agg #[υ 0,υ 0,.bool false,ι 0,.bool false,y]) (by simp[results,results55,go_sem, *]) rfl ⟨rfl,?_⟩
 refine HF.o _ (Sat.right (P:=jk (fun k=>k=w.heap.size+1+1∨k=w.heap.size+1)) ?_)
 repeat' (first|(with_reducible first|exact HS.o|refine Sat.setJ ?_ ?_ _|refine Sat.drew ?_|refine Sat.drewN ?_ _)|exact .inl rfl|exact .inr rfl)
end
theorem UQ (ω w:World)(F:HP)(s:MSh)(b:Nat)(m:PMm)(A:MemA)(h:Sat ω w (memHA s b m A*F))(hf:m.fits)(o:POp)(ho:o.at_≤1000000)(hk:1≤o.kind∧o.kind≤9):
  Calls prog 55 #[.pointer b,opA o] w (Rets ω F (ansA (doM m o).1) (memHA s b (doM m o).2 A)):=by
 rcases(by omega:o.kind=1∨o.kind=2∨o.kind=3∨o.kind=4∨o.kind=5∨o.kind=6∨o.kind=7∨o.kind=8∨o.kind=9) with k|k|k|k|k|k|k|k|k
 ·exact Sm ω w F s b m A h hf o ho k
 ·exact Ki ω w F s b m A h hf o ho k
 ·exact Sn ω w F s b m A h hf o ho k
 ·exact Kk ω w F s b m A h hf o ho k
 ·exact Kj ω w F s b m A h hf o ho k
 ·exact QI ω w F s b m A h hf o ho k
 ·exact Ir ω w F s b m A h hf o ho k
 ·exact QH ω w F s b m A h hf o ho k
 ·exact Ip ω w F s b m A h hf o ho k
theorem IQ {s:MSh}{b:Nat}{m:PMm}{A:MemA}{F:HP}{ω w:World}(h:Sat ω w (memHA s b m A*F))(c:Int):Sat ω (w.setCell (κ b 9) c) (memHA s b {m with count:=c} A*F) :=
 ((h.perm AI).put 9 c (cs':=memCells s A c) rfl).perm (AI (m:={m with count:=c})).symm
theorem PN (ω w:World)(F:HP)(s:MSh)(b:Nat)(m:PMm)(h:Sat ω w (memH s b m*F))(hf:m.fits)(o:POp)(ho:o.at_≤1000000)(hk:1≤o.kind∧o.kind≤9):
  Calls prog 35 #[.pointer b,opA o] w (Rets ω F (ansA (doC m o).1) (memH s b (doC m o).2)):=by
 obtain⟨A,h⟩:=h.of_ex;have HD:=h_ (fun w1 F1 (h1:Sat ω w1 (memHA s b m A*F1))=>UQ ω w1 F1 s b m A h1 hf o ho hk)
 have HE:Hid (doC m o=((doM m o).1,if(doM m o).1.err=0 then {(doM m o).2 with count:=wrap64 ((doM m o).2.count+1)} else(doM m o).2)):=rfl
 rw[HE.o];generalize doM m o=r at *
 obtain⟨⟨xw,⟨xv,xh,xo⟩,xd,xe⟩,m2⟩:=r;obtain⟨kind,at_,old,word,⟨wv,wh,wo⟩,⟨lv,lh,lo⟩⟩:=o;have h1:=(h.junk (.cells #[kind,at_,υ old,υ word,υ wv,.bool wh,wo,υ lv,.bool lh,lo] 95)).new ζ 100;simp only[World.size_alloc] at h1;have H1:=h_ ((h1.perm (by ac_rfl):Sat ω _ (memHA s b m A*(bk (w.heap.size+1) 100 ζ*F))))
 have hb:=(h.perm AI).blk.lt;clear h h1 HE;simp only[opA,ansA] at HD ⊢;have HX:Hid (∀w1,Sat ω w1 (memHA s b m2 A*F)→Sat ω w1 (memH s b m2*F)):=h_ (fun w1 h1=>h1.to_ex A)
 have HY:Hid (∀w1,Sat ω w1 (memHA s b {m2 with count:=wrap64 (m2.count+1)} A*F)→Sat ω w1 (memH s b {m2 with count:=wrap64 (m2.count+1)}*F)):=h_ (fun w1 h1=>h1.to_ex A)
 by_cases he:xe=0
 ·subst he;rw[if_pos rfl];go_enter func35,ntmps35;go_wp2_with ((go_at_call 55;refine(HD.o _ _ H1.o).mono ?_;rintro e w1 ⟨rfl,hs⟩;have q:=hs.right.blk;obtain⟨q0,q1,q2,q3,q4,q5⟩:=q.six;have qf:=q.frozen;have ql:=q.lt;have k:=(hs.perm AI).blk;have k9:=k.c 9;have kf:=k.frozen;have kl:=k.lt;have HS:=h_ hs.swap.jk1;clear q k hs));refine bodyPost_ret (v:=.agg #[υ xw,υ xv,.bool xh,xo,.bool xd,ι 0]) (by simp[results,results35,go_sem, *]) rfl ⟨rfl,?_⟩
  refine HY.o _ (Sat.right (P:=jk (fun k=>k=w.heap.size+1)) ?_)
  repeat' (first|(with_reducible first|exact(IQ HS.o.swap _).swap|refine Sat.setJ ?_ ?_ _|refine Sat.junk ?_ _)|exact rfl)
 ·have he2:((xe:Int)==0)=false:=by simpa using he
  rw[if_neg he];go_enter func35,ntmps35;go_wp2_with ((go_at_call 55;refine(HD.o _ _ H1.o).mono ?_;rintro e w1 ⟨rfl,hs⟩;have q:=hs.right.blk;obtain⟨q0,q1,q2,q3,q4,q5⟩:=q.six;have qf:=q.frozen;have ql:=q.lt;have HS:=h_ hs.swap.jk1;clear q hs));refine bodyPost_ret (v:=.agg #[υ xw,υ xv,.bool xh,xo,.bool xd,xe]) (by simp[results,results35,go_sem, *]) rfl ⟨rfl,?_⟩
  refine HX.o _ (Sat.right (P:=jk (fun k=>k=w.heap.size+1)) ?_)
  repeat' (first|(with_reducible first|exact HS.o|refine Sat.setJ ?_ ?_ _|refine Sat.junk ?_ _)|exact rfl)
section
variable (ω w : World) (F : HP)
def ptC (p:PPat)(r:List Value):Array Value:=(.int .i64 p.me::.int .i64 p.spins::.int .i64 p.fin::.int .i64 p.by_::.int .i64 p.err::r).toArray
structure PtAt (w:World) (b:Nat) (p:PPat):Prop where
 c0:w.cell? b=some (.int .i64 p.me)
 c1:w.cell? (κ b 1)=some (.int .i64 p.spins)
 c2:w.cell? (κ b 2)=some (.int .i64 p.fin)
 c3:w.cell? (κ b 3)=some (.int .i64 p.by_)
 c4:w.cell? (κ b 4)=some (.int .i64 p.err)
 fz:∀i,w.frozen? (κ b i)=false
 lt:b<w.heap.size
theorem PtAt.of {w:World}{b:Nat}{t:TypeId}{p:PPat}{r:List Value}(h:Blk w b t (ptC p r)):PtAt w b p :=
 ⟨h.cell 0,h.cell 1,h.cell 2,h.cell 3,h.cell 4,h.frozen,h.lt⟩
theorem BJ (b:Nat)(t:TypeId)(p:PPat)(r:List Value)(h:Sat ω w (bk b t (ptC p r)*F))(fin err:Nat)(by_:Int):
  Calls prog 392 #[.pointer b,fin,err,by_] w fun e w'=>e=.returned (.tuple #[])∧Sat ω w' (bk b t (ptC (p.stop fin err by_) r)*F):=by
 obtain⟨c0,c1,c2,c3,c4,f,lt⟩:=PtAt.of h.blk;have H:=h_ (((h.set 2 fin).set 4 err).put 3 by_ (cs':=ptC (p.stop fin err by_) r) rfl);clear h;go_enter func392,ntmps392;go_wp2;go_end0;exact⟨rfl,H.o⟩
theorem Ew {p:PPat}{a:PAns}(h:¬(p.fin=0∧a.err≠0)):p.hear a=p:=by unfold PPat.hear;rw[if_neg h]
theorem Pk {p:PPat}{a:PAns}(h:p.fin=0∧a.err≠0):p.hear a=p.stop 4 a.err (-1):=by unfold PPat.hear;rw[if_pos h]
theorem Bs (b:Nat)(t:TypeId)(p:PPat)(r:List Value)(h:Sat ω w (bk b t (ptC p r)*F))(a:PAns):
  Calls prog 391 #[.pointer b,ansA a] w (Rets ω F (.bool (decide ((p.hear a).fin≠0))) (bk b t (ptC (p.hear a) r))):=by
 obtain⟨c0,c1,c2,c3,c4,f,lt⟩:=PtAt.of h.blk;obtain⟨xw,⟨xv,xh,xo⟩,xd,xe⟩:=a;have H:=h_ h;simp only[ansA];clear h;by_cases h0:p.fin=0
 ·by_cases h1:xe=0
  ·rw[Ew (fun h=>h.2 h1)]
   subst h1;rw[h0] at c2;rw[h0];go_enter func391,ntmps391;go_wp2;go_ret;exact⟨rfl,H.o.junk _⟩
  ·rw[Pk ⟨h0,h1⟩];have d:((xe:Int)==0)=false:=by simpa using h1
   have d2:((xe:Int) != 0)=true:=by simpa using h1
   rw[h0] at c2;have HS:=h_ (fun w1 F1 (h1:Sat ω w1 (bk b t (ptC p r)*F1))=>BJ ω w1 F1 b t p r h1 4 xe (-1))
   go_enter func391,ntmps391;go_wp2_with (go_at_call 392;refine(HS.o _ _ (H.o.junk _)).mono ?_;rintro e w1 ⟨rfl,hs⟩;have k:=PtAt.of hs.blk;have k2:w1.cell? (κ b 2)=some (.int .i64 4):=k.c2;have HX:=h_ hs;clear k hs);go_ret;exact⟨rfl,HX.o⟩
 ·rw[Ew (fun h=>h0 h.1)]
  have d:((p.fin:Int)==0)=false:=by simpa using h0
  have d2:((p.fin:Int) != 0)=true:=by simpa using h0
  rw[decide_eq_true h0];go_enter func391,ntmps391;go_wp2;go_ret;exact⟨rfl,H.o.junk _⟩
theorem DQ (b:Nat)(t:TypeId)(p:PPat)(r:List Value)(h:Sat ω w (bk b t (ptC p r)*F))(l:PLk):
  Calls prog 394 #[.pointer b,lkA l] w (Rets ω F (.bool (p.waits l).1) (bk b t (ptC (p.waits l).2 r))):=by
 obtain⟨c0,c1,c2,c3,c4,f,lt⟩:=PtAt.of h.blk;obtain⟨xv,xh,xo⟩:=l;have H:=h_ h;simp only[lkA];have HE:Hid (p.waits ⟨xv,xh,xo⟩=if p.me<xo then(true,p) else(decide (0≤wrap64 (p.spins-1)),{p with spins:=wrap64 (p.spins-1)})):=rfl
 rw[HE.o];by_cases h0:p.me<xo
 ·rw[if_pos h0];clear h;go_enter func394,ntmps394;go_wp2;go_quiet (fail);go_wp2;go_ret;exact⟨rfl,(H.o.junk _).drewN _⟩
 ·rw[if_neg h0];have HX:Hid (∀w1,Sat ω w1 (bk b t (ptC p r)*F)→Sat ω (w1.setCell (κ b 1) (.int .i64 (wrap64 (p.spins-1)))) (bk b t (ptC {p with spins:=wrap64 (p.spins-1)} r)*F)):=h_ (fun w1 h1=>h1.put 1 _ rfl)
  clear h;go_enter func394,ntmps394;go_wp2;go_quiet (fail);go_wp2;go_ret;exact⟨rfl,HX.o _ ((H.o.junk _).drewN _)⟩
def ptA (p:PPat):Value:=.agg #[p.me,p.spins,p.fin,p.by_,p.err]
theorem GZ (w:World)(me spins:Nat):Calls prog 162 #[me,spins] w fun e w'=>e=.returned (ptA (PPat.new me spins))∧Only Nob w w':=by
 rcases(by omega:spins=0∨(1≤spins∧spins≤4)∨5≤spins) with hs|⟨h1,h2⟩|h1
 ·subst hs;have HE:Hid (ptA (PPat.new me 0)=.agg #[me,ι 0,ι 0,ι (-1),ι 0]):=h_ (by simp[ptA,PPat.new])
  rw[HE.o];go_enter func162,ntmps162;go_wp2;refine bodyPost_ret (v:=.agg #[me,ι 0,ι 0,ι (-1),ι 0]) (by simp[results,results162,go_sem]) rfl ⟨rfl,?_⟩
  repeat' (first|(with_reducible first|refine Only.setCell ?_ ?_ _|refine Only.alloc ?_ _|refine Only.drewN ?_ _|refine Only.drew ?_|exact Only.refl _ _)|(right;simp;done)|(right;simp;omega))
 ·have g1:(0:Int)<(spins:Int):=by omega
  have g2:(spins:Int)≤4:=by omega
  have HE:Hid (ptA (PPat.new me spins)=.agg #[me,spins,ι 0,ι (-1),ι 0]):=h_ (by simp[ptA,PPat.new,Nat.min_eq_left h2])
  rw[HE.o];go_enter func162,ntmps162;go_wp2;refine bodyPost_ret (v:=.agg #[me,spins,ι 0,ι (-1),ι 0]) (by simp[results,results162,go_sem]) rfl ⟨rfl,?_⟩
  repeat' (first|(with_reducible first|refine Only.setCell ?_ ?_ _|refine Only.alloc ?_ _|refine Only.drewN ?_ _|refine Only.drew ?_|exact Only.refl _ _)|(right;simp;done)|(right;simp;omega))
 ·have g1:(4:Int)<(spins:Int):=by omega
  have HE:Hid (ptA (PPat.new me spins)=.agg #[me,ι 4,ι 0,ι (-1),ι 0]):=h_ (by simp[ptA,PPat.new,Nat.min_eq_right (show 4≤spins by omega)])
  rw[HE.o];go_enter func162,ntmps162;go_wp2;refine bodyPost_ret (v:=.agg #[me,ι 4,ι 0,ι (-1),ι 0]) (by simp[results,results162,go_sem]) rfl ⟨rfl,?_⟩
  repeat' (first|(with_reducible first|refine Only.setCell ?_ ?_ _|refine Only.alloc ?_ _|refine Only.drewN ?_ _|refine Only.drew ?_|exact Only.refl _ _)|(right;simp;done)|(right;simp;omega))
end
def feR (f:PFe):List Value:=[.int .i64 f.at_,.int .i64 f.stripe,.int .u64 f.stamp,.int .i64 f.state,.int .u64 f.lock.ver,.bool f.lock.held,.int .i64 f.lock.own,.int .u64 f.word]
def feC (f:PFe):Array Value:=ptC f.rule (feR f)
def fetchH (b:Nat)(f:PFe):HP:=bk b 283 (feC f)
structure FeAt (w:World) (b:Nat) (f:PFe):Prop extends PtAt w b f.rule where
 c5:w.cell? (κ b 5)=some (.int .i64 f.at_)
 c6:w.cell? (κ b 6)=some (.int .i64 f.stripe)
 c7:w.cell? (κ b 7)=some (.int .u64 f.stamp)
 c8:w.cell? (κ b 8)=some (.int .i64 f.state)
 c9:w.cell? (κ b 9)=some (.int .u64 f.lock.ver)
 c10:w.cell? (κ b 10)=some (.bool f.lock.held)
 c11:w.cell? (κ b 11)=some (.int .i64 f.lock.own)
 c12:w.cell? (κ b 12)=some (.int .u64 f.word)
theorem FeAt.of {w:World}{b:Nat}{f:PFe}(h:Blk w b 283 (feC f)):FeAt w b f :=
 ⟨PtAt.of h,h.cell 5,h.cell 6,h.cell 7,h.cell 8,h.cell 9,h.cell 10,h.cell 11,h.cell 12⟩
theorem Sat.bkNew {ω w:World}{F:HP}{cs ds:Array Value}{t:TypeId}(h:Sat ω w F)(e:cs=ds):Sat ω (w.alloc (.cells cs t)) (bk w.heap.size t ds*F):=e▸h.new cs t
def RetP (ω:World)(F:HP)(Q:Nat→HP)(e:Ending)(w':World):Prop:=∃b,e=.returned (.pointer (some ⟨b,0,none⟩))∧Sat ω w' (Q b*F)
theorem UK (ω w:World)(F:HP)(h:Sat ω w F)(me at_ stripe spins stamp:Nat):
  Calls prog 158 #[me,at_,stripe,spins,υ stamp] w (RetP ω F fun b=>fetchH b (PFe.new me at_ stripe spins stamp)):=by
 have H:=h_ h;obtain⟨p,hp⟩:∃p,PPat.new me spins=p:=⟨_,rfl⟩;have HP:Hid (∀w1,Calls prog 162 #[me,spins] w1 fun e w'=>e=.returned (ptA p)∧Only Nob w1 w'):=h_ (fun w1=>hp▸GZ w1 me spins)
 have HE:Hid (feC (PFe.new me at_ stripe spins stamp)=ptC p [.int .i64 at_,.int .i64 stripe,.int .u64 stamp,.int .i64 0,.int .u64 0,.bool false,.int .i64 0,.int .u64 0]):=h_ (by rw[←hp];rfl)
 obtain⟨pm,ps,pf,pb,pe⟩:=p;simp only[ptA] at HP;go_enter func158,ntmps158;go_wp2_with (go_at_call 162;refine(HP.o _).mono ?_;rintro e w1 ⟨rfl,ho⟩;have HO:=h_ ho);go_ret;exact⟨_,rfl,(H.o.nob HO.o).bkNew (by rw[HE.o];rfl)⟩
theorem Sb (w:World)(b:Nat)(f:PFe)(h:Blk w b 283 (feC f)):
  Calls prog 388 #[.pointer b] w fun e w'=>e=.returned (.tuple #[opA f.next.1,.bool f.next.2])∧Only Nob w w':=by
 obtain⟨⟨c0,c1,c2,c3,c4,fz,lt⟩,c5,c6,c7,c8,c9,c10,c11,c12⟩:=FeAt.of h;have HE:Hid (f.next=if f.rule.fin≠0 then(POp.zero,false) else if f.state=1 then(POp.at' 1 f.at_,true) else(POp.at' 3 f.stripe,true)):=rfl
 rw[HE.o];by_cases h0:f.rule.fin=0
 ·rw[h0] at c2;rw[if_neg (by simpa using h0)]
  by_cases h1:f.state=1
  ·rw[h1] at c8;rw[if_pos h1];go_enter func388,ntmps388;go_wp2;refine bodyPost_ret (v:=.tuple #[opA (POp.at' 1 f.at_),.bool true]) (by simp[results,results388,go_sem,opA,POp.at',POp.zero,PLk.zero]) rfl ⟨rfl,?_⟩
   repeat' (first|(with_reducible first|refine Only.setCell ?_ ?_ _|refine Only.alloc ?_ _|refine Only.drewN ?_ _|refine Only.drew ?_|exact Only.refl _ _)|(right;simp;done)|(right;simp;omega))
  ·rw[if_neg h1];have d:((f.state:Int)==1)=false:=by rw[beq_eq_false_iff_ne];omega
   go_enter func388,ntmps388;go_wp2;refine bodyPost_ret (v:=.tuple #[opA (POp.at' 3 f.stripe),.bool true]) (by simp[results,results388,go_sem,opA,POp.at',POp.zero,PLk.zero]) rfl ⟨rfl,?_⟩
   repeat' (first|(with_reducible first|refine Only.setCell ?_ ?_ _|refine Only.alloc ?_ _|refine Only.drewN ?_ _|refine Only.drew ?_|exact Only.refl _ _)|(right;simp;done)|(right;simp;omega))
 ·rw[if_pos h0];have d:((f.rule.fin:Int) != 0)=true:=by simpa using h0
  go_enter func388,ntmps388;go_wp2;refine bodyPost_ret (v:=.tuple #[opA POp.zero,.bool false]) (by simp[results,results388,go_sem,opA,POp.zero,PLk.zero]) rfl ⟨rfl,?_⟩
  repeat' (first|(with_reducible first|refine Only.setCell ?_ ?_ _|refine Only.alloc ?_ _|refine Only.drewN ?_ _|refine Only.drew ?_|exact Only.refl _ _)|(right;simp;done)|(right;simp;omega))
theorem QB (ω w:World)(F:HP)(b:Nat)(f:PFe)(h:Sat ω w (fetchH b f*F))(l:PLk):
  Calls prog 393 #[.pointer b,lkA l] w (Rets ω F (.tuple #[]) (fetchH b (f.found l))):=by
 obtain⟨⟨c0,c1,c2,c3,c4,fz,lt⟩,c5,c6,c7,c8,c9,c10,c11,c12⟩:=FeAt.of h.blk;have lt1:b<w.heap.size+1:=by omega
 have H:=h_ h;obtain⟨xv,xh,xo⟩:=l;have HE:Hid (f.found ⟨xv,xh,xo⟩=(let f:={f with state:=0};if xh then(let r:=f.rule.waits ⟨xv,xh,xo⟩;if r.1 then {f with rule:=r.2} else {f with rule:=r.2.stop 5 0 xo}) else if f.stamp<xv then {f with rule:=f.rule.stop 6 0 (-1)} else {f with lock:=⟨xv,xh,xo⟩,state:=1})):=rfl
 rw[HE.o];have H8:Hid (∀w1 F1,Sat ω w1 (fetchH b f*F1)→Sat ω (w1.setCell (κ b 8) (ι 0)) (fetchH b {f with state:=0}*F1)):=h_ (fun w1 F1 h1=>h1.put 8 (ι 0) rfl)
 have HB:=h_ (fun w1 F1 (h1:Sat ω w1 (fetchH b {f with state:=0}*F1))=>h1.blk)
 simp only[lkA];cases xh
 ·simp only[Bool.false_eq_true,if_false];by_cases h1:f.stamp<xv
  ·rw[if_pos h1];have HS:=h_ (fun w1 (h1:Sat ω w1 (fetchH b {f with state:=0}*F))=>BJ ω w1 F b 283 f.rule (feR {f with state:=0}) h1 6 0 (-1))
   go_enter func393,ntmps393;go_wp2;go_quiet (fail);go_wp2_with (go_at_call 392;refine(HS.o _ (by repeat' (first|(with_reducible first|refine Sat.drewN ?_ _|refine Sat.drew ?_|refine Sat.junk ?_ _)|(exact H8.o _ _ H.o)))).mono ?_;rintro e w1 ⟨rfl,hs⟩;have HX:=h_ hs)
   go_end0;exact⟨rfl,HX.o⟩
  ·rw[if_neg h1];have HL:Hid (∀w1,Sat ω w1 (fetchH b {f with state:=0}*F)→Sat ω ((((w1.setCell (κ b 9) (υ xv)).setCell (κ b 10) (.bool false)).setCell (κ b 11) xo).setCell (κ b 8) (ι 1)) (fetchH b {f with state:=1,lock:=⟨xv,false,xo⟩}*F)):=h_ (fun w1 h1=>(((h1.set 9 _).set 10 _).set 11 _).put 8 _ rfl)
   go_enter func393,ntmps393;go_wp2;go_quiet (fail);go_wp2;go_end0;refine⟨rfl,?_⟩;refine HL.o _ ?_;repeat' (first|(with_reducible first|refine Sat.drewN ?_ _|refine Sat.junk ?_ _)|(exact H8.o _ _ H.o))
 ·simp only[if_true];have HBX:Hid (Sat ω ((w.setCell (κ b 8) (ι 0)).alloc (.cells #[υ xv,.bool true,xo] 93)) (fetchH b {f with state:=0}*(bk w.heap.size 93 #[υ xv,.bool true,xo]*F))):=h_ (by
   have h9:=((H8.o _ _ H.o).new #[υ xv,.bool true,xo] 93).swap
   rwa [show(w.setCell (κ b 8) (ι 0)).heap.size=w.heap.size by simp[World.setCell]] at h9)
  have HW:Hid (∀w1 F1,Sat ω w1 (fetchH b {f with state:=0}*F1)→Calls prog 394 #[.pointer b,.agg #[υ xv,.bool true,xo]] w1 (Rets ω F1 (.bool (f.rule.waits ⟨xv,true,xo⟩).1) (fetchH b {f with state:=0,rule:=(f.rule.waits ⟨xv,true,xo⟩).2}))):=h_ (fun w1 F1 h1=>DQ ω w1 F1 b 283 f.rule (feR {f with state:=0}) h1 ⟨xv,true,xo⟩)
  generalize f.rule.waits ⟨xv,true,xo⟩=r at *
  obtain⟨ok,r⟩:=r;simp only at HW ⊢;cases ok
  ·have HS:Hid (∀w1,Sat ω w1 (fetchH b {f with state:=0,rule:=r}*F)→Calls prog 392 #[.pointer b,ι 5,ι 0,xo] w1 (fun e w'=>e=.returned (.tuple #[])∧Sat ω w' (fetchH b {f with state:=0,rule:=r.stop 5 0 (xo:Int)}*F))):=h_ (fun w1 h1=>BJ ω w1 F b 283 r (feR {f with state:=0}) h1 5 0 (xo:Int))
   go_enter func393,ntmps393;go_wp2;refine rT 4 ?_;simp only[sD,sE,sF,sG];repeat still_step
   refine wpStill_nil ?_;go_wp2_with (go_at_call 394;refine(HW.o _ _ (by repeat' (first|(exact HBX.o)|(with_reducible refine Sat.drew ?_)))).mono ?_;rintro e w1 ⟨rfl,hs⟩;have q:=hs.right.blk;have q2:=q.cell 2;have ql:=q.lt;have HX:=h_ hs.swap.right)
   refine rT 5 ?_;simp only[sD,sE,sF,sG];repeat still_step
   refine wpStill_nil ?_;go_wp2_with (go_at_call 392;refine(HS.o _ HX.o.drew).mono ?_;rintro e w2 ⟨rfl,hs⟩;have HY:=h_ hs);go_end0;exact⟨rfl,HY.o⟩
  ·simp only[if_true];go_enter func393,ntmps393;go_wp2;refine rT 4 ?_;simp only[sD,sE,sF,sG];repeat still_step
   refine wpStill_nil ?_;go_wp2_with (go_at_call 394;refine(HW.o _ _ (by repeat' (first|(exact HBX.o)|(with_reducible refine Sat.drew ?_)))).mono ?_;rintro e w1 ⟨rfl,hs⟩;have q:=hs.right.blk;have q2:=q.cell 2;have ql:=q.lt;have HX:=h_ hs.swap.right)
   go_end0;exact⟨rfl,HX.o⟩
section
def RetR (ω:World)(F:HP)(e:TypeId)(size n:Nat)(xs:List Value)(en:Ending)(w':World):Prop:=∃A c,en=.returned (.slice A n c)∧Sat ω w' (row e size (.slice A n c) n xs*F)
theorem Sat.rowForm {ω w:World}{e:TypeId}{size n:Nat}{v:Value}{xs:List Value}{F:HP}(h:Sat ω w (row e size v n xs*F)):∃A c,v=.slice A n c:=by
 rcases h.cases with⟨h1,h2,_,_⟩|⟨g,cap,cur,h1,_⟩
 ·exact⟨none,0,by rw[h1,h2]⟩
 ·exact⟨_,_,h1⟩
theorem Sat.reads {ω w:World}{e:TypeId}{size n c:Nat}{A:Option Addr}{xs:List Value}{F:HP}(h:Sat ω w (row e size (.slice A n c) n xs*F)):Reads w w.heap.size size A n xs:=Reads.of_own h.owns
section
variable {P : Program} {ω w : World} {G : HP}
theorem AB {ops:Array Oper}{rest:List Oper}{o:Oper}{a:Act}{Q:Exit→Act→World→Prop}(hgd:o.guard=none)(s x:Operand)(t:TypeId)
  (ho:o.op=.call {callee:=.builtin .append,args:=#[s,x],argTypes:=#[t,t]})
  (e:TypeId) (i:TypeInfo) (z:Value) (size bytes:Nat) (ht:P.underlying t=some (.slice e)) (hi:P.info? e=some i) (hz:i.zero=some z)
  (hsize:i.size=size) (hby:i.bytes=bytes) (hzs:z.cells.size=size) (hsz:0<size)
  (v:Value) (n:Nat) (xs:List Value) (hs:a.eval s=v) (h:Sat ω w (row e size v n xs*G))
  (B:Nat) (A:Option Addr) (m c:Nat) (news:List Value) (hx:a.eval x=.slice A m c) (hr:Reads w B size A m news) (h1:∀u∈news,u.oneCell'=true)
  (h63:n+m≤maxLen) (hbytes:(n+m)*bytes≤140737488355328)
  (hk:∀A' c' w',Sat ω w' (row e size (.slice A' (n+m) c') (n+m) (xs++news)*G)→wpList P ops Q rest (a.put o.dst (.slice A' (n+m) c')) w'):wpList P ops Q (o::rest) a w :=
 Cj w hgd s x t ho 0 e i z size bytes ht hi hz hsize hby hzs hsz v n xs hs h.owns B A m c news hx hr h1 h63 hbytes (Nat.zero_le _) fun v' w' h2 h3 h4=>by
  have h5:=h.grown h3 h4 h2;obtain⟨A',c',rfl⟩:=h5.rowForm;exact hk A' c' w' h5
theorem Ds {ops:Array Oper}{o:Oper}{a:Act}{K:Act→World→Prop}{Q:Exit→Act→World→Prop}{E:Prop}(hgd:o.guard=none)(s x:Operand)(t:TypeId)
  (ho:o.op=.call {callee:=.builtin .append,args:=#[s,x],argTypes:=#[t,t]})
  (e:TypeId) (i:TypeInfo) (z:Value) (size bytes:Nat) (ht:P.underlying t=some (.slice e)) (hi:P.info? e=some i) (hz:i.zero=some z)
  (hsize:i.size=size) (hby:i.bytes=bytes) (hzs:z.cells.size=size) (hsz:0<size)
  (v:Value) (n:Nat) (xs:List Value) (hs:a.eval s=v) (h:Sat ω w (row e size v n xs*G))
  (B:Nat) (A:Option Addr) (m c:Nat) (news:List Value) (hx:a.eval x=.slice A m c) (hr:Reads w B size A m news) (h1:∀u∈news,u.oneCell'=true)
  (h63:n+m≤maxLen) (hbytes:(n+m)*bytes≤140737488355328)
  (hk:∀A' c' w',Sat ω w' (row e size (.slice A' (n+m) c') (n+m) (xs++news)*G)→K (a.put o.dst (.slice A' (n+m) c')) w'):if Region.wanted o (yielded ops a.tmps)=true then Oper.wp P o a w K Q else E :=
 Dt w hgd s x t ho 0 e i z size bytes ht hi hz hsize hby hzs hsz v n xs hs h.owns B A m c news hx hr h1 h63 hbytes (Nat.zero_le _) fun v' w' h2 h3 h4=>by
  have h5:=h.grown h3 h4 h2;obtain⟨A',c',rfl⟩:=h5.rowForm;exact hk A' c' w' h5
theorem BI {ops:Array Oper}{o:Oper}{a:Act}{K:Act→World→Prop}{Q:Exit→Act→World→Prop}{E:Prop}{s x:Operand}(t e:TypeId){i:TypeInfo}{z:Value}(size bytes:Nat)(ht:P.underlying t=some (.slice e))(hi:P.info? e=some i)(hz:i.zero=some z)
  (hsize:i.size=size) (hby:i.bytes=bytes) {v:Value} {n:Nat} {xs:List Value} (h:Sat ω w (row e size v n xs*G)) {B:Nat} {A:Option Addr} {m c:Nat} {news:List Value} (hr:Reads w B size A m news) (h1:∀u∈news,u.oneCell'=true)
  (hk:∀A' c' w',Sat ω w' (row e size (.slice A' (n+m) c') (n+m) (xs++news)*G)→K (a.put o.dst (.slice A' (n+m) c')) w')
  (hgd:o.guard=none:=by rfl) (ho:o.op=.call {callee:=.builtin .append,args:=#[s,x],argTypes:=#[t,t]}:=by rfl) (hzs:z.cells.size=size:=by rfl) (hsz:0<size:=by decide) (hs:a.eval s=v:=by rfl) (hx:a.eval x=.slice A m c:=by rfl)
  (h63:n+m≤maxLen:=by unfold maxLen;first|done|omega) (hbytes:(n+m)*bytes≤140737488355328:=by first|done|omega):if Region.wanted o (yielded ops a.tmps)=true then Oper.wp P o a w K Q else E :=
 Ds hgd s x t ho e i z size bytes ht hi hz hsize hby hzs hsz v n xs hs h B A m c news hx hr h1 h63 hbytes hk
end
end
section
variable (ω w : World) (F : HP)
theorem Fu:(prog.info? 148).map (fun i=>(i.zero,i.size,i.bytes))=some (some (.agg #[ι 0,υ 0]),2,16):=by kernel_rfl
theorem DV (A:Option Addr)(n c:Nat)(xs:List Value)(h:Sat ω w (row 148 2 (.slice A n c) n xs*F))(hn:n≤1000000)(h1:∀u∈xs,u.oneCell'=true):
  Calls prog 143 #[.slice A n c] w (RetR ω (row 148 2 (.slice A n c) n xs*F) 148 2 n xs):=by
 have H:=h_ h;have H1:=h_ h1;obtain⟨i0,hi,hz⟩:=Option.map_eq_some_iff.1 Fu;simp only[Prod.mk.injEq] at hz;obtain⟨hz0,hz1,hz2⟩:=hz;have HI:=h_ hi;have HZ0:=h_ hz0;have HZ1:=h_ hz1;have HZ2:=h_ hz2;rcases h.cases with⟨h2,h3,h4,h5⟩|⟨g,cap,cur,h2,h3,h4,h5,h6,h7,h8⟩
 ·injection h2 with h2a h2b h2c
  subst h2a h2c;clear hi hz0 hz1 hz2 h1 h5 H1;subst h3 h4;clear h h2b;have HX:=h_ (H.o.nil 148 2);have qT:∀(w:World) (a:Option Addr) (n c n' c':Nat),(binOp .eql 145 (.slice a n c) (.slice none n' c')).run prog w=.ok (.bool a.isNone) w:=fun w a n c n' c'=>Lib.run_eql_slice_nil w _ _ a n c n' c' underlying145
  go_enter func143,ntmps143;go_wp2;go_ret;exact⟨none,0,rfl,HX.o⟩
 ·injection h2 with h2a h2b h2c
  subst h2a;clear hi hz0 hz1 hz2 h1 h3 h4 h5 h6 h7 h8 h2b h2c;have HRD:Hid (Reads w w.heap.size 2 (some ⟨g,0,none⟩) n xs):=h_ h.reads;have HB:Hid (Sat ω (w.alloc (.cells #[] 148)) (row 148 2 (.slice w.heap.size 0 0) 0 []*(row 148 2 (.slice (some ⟨g,0,none⟩) n c) n xs*F))):=h_ (by
   have h9:=(h.new #[] 148).rowOf (n:=0) (size:=2) rfl (Nat.zero_le _);exact h9)
  have qT:∀(w:World) (a:Option Addr) (n c n' c':Nat),(binOp .eql 145 (.slice a n c) (.slice none n' c')).run prog w=.ok (.bool a.isNone) w:=fun w a n c n' c'=>Lib.run_eql_slice_nil w _ _ a n c n' c' underlying145
  go_enter func143,ntmps143;go_wp2_with (at_builtin;refine AB rfl _ _ 145 rfl 148 i0 _ 2 16 underlying145 HI.o HZ0.o HZ1.o HZ2.o rfl (by decide) _ _ _ rfl HB.o _ _ _ _ _ rfl (HRD.o.alloc (Nat.le_refl _) _) H1.o (by unfold maxLen;omega) (by omega) ?_;intro A' c' w' hs;simp only[Nat.zero_add,List.nil_append] at hs ⊢;have HS:=h_ hs)
  go_ret;exact⟨_,_,rfl,HS.o⟩
theorem CK:(prog.info? 54).map (fun i=>(i.zero,i.size,i.bytes))=some (some (.agg #[ι 0,υ 0]),2,16):=by kernel_rfl
theorem CN (A:Option Addr)(n c:Nat)(xs:List Value)(h:Sat ω w (row 54 2 (.slice A n c) n xs*F))(hn:n≤1000000)(h1:∀u∈xs,u.oneCell'=true):
  Calls prog 106 #[.slice A n c] w (RetR ω (row 54 2 (.slice A n c) n xs*F) 54 2 n xs):=by
 have H:=h_ h;have H1:=h_ h1;obtain⟨i0,hi,hz⟩:=Option.map_eq_some_iff.1 CK;simp only[Prod.mk.injEq] at hz;obtain⟨hz0,hz1,hz2⟩:=hz;have HI:=h_ hi;have HZ0:=h_ hz0;have HZ1:=h_ hz1;have HZ2:=h_ hz2;rcases h.cases with⟨h2,h3,h4,h5⟩|⟨g,cap,cur,h2,h3,h4,h5,h6,h7,h8⟩
 ·injection h2 with h2a h2b h2c
  subst h2a h2c;subst h3 h4;clear h h2b;have HX:=h_ (H.o.nil 54 2);have qT:∀(w:World) (a:Option Addr) (n c n' c':Nat),(binOp .eql 49 (.slice a n c) (.slice none n' c')).run prog w=.ok (.bool a.isNone) w:=fun w a n c n' c'=>Lib.run_eql_slice_nil w _ _ a n c n' c' underlying49
  go_enter func106,ntmps106;go_wp2;go_ret;exact⟨none,0,rfl,HX.o⟩
 ·injection h2 with h2a h2b h2c
  subst h2a;clear hi hz0 hz1 hz2 h1 h3 h4 h5 h6 h7 h8 h2b h2c;have HRD:Hid (Reads w w.heap.size 2 (some ⟨g,0,none⟩) n xs):=h_ h.reads;have HB:Hid (Sat ω (w.alloc (.cells #[] 54)) (row 54 2 (.slice w.heap.size 0 0) 0 []*(row 54 2 (.slice (some ⟨g,0,none⟩) n c) n xs*F))):=h_ (by
   have h9:=(h.new #[] 54).rowOf (n:=0) (size:=2) rfl (Nat.zero_le _);exact h9)
  clear h;have qT:∀(w:World) (a:Option Addr) (n c n' c':Nat),(binOp .eql 49 (.slice a n c) (.slice none n' c')).run prog w=.ok (.bool a.isNone) w:=fun w a n c n' c'=>Lib.run_eql_slice_nil w _ _ a n c n' c' underlying49
  go_enter func106,ntmps106;go_wp2_with (at_builtin;refine AB rfl _ _ 49 rfl 54 i0 _ 2 16 underlying49 HI.o HZ0.o HZ1.o HZ2.o rfl (by decide) _ _ _ rfl HB.o _ _ _ _ _ rfl (HRD.o.alloc (Nat.le_refl _) _) H1.o (by unfold maxLen;omega) (by omega) ?_;intro A' c' w' hs;simp only[Nat.zero_add,List.nil_append] at hs ⊢;have HS:=h_ hs;clear hs)
  go_ret;exact⟨_,_,rfl,HS.o⟩
theorem Et:(prog.info? 3).map (fun i=>(i.zero,i.size,i.bytes))=some (some (.int .i64 0),1,8):=by kernel_rfl
theorem CJ:(prog.info? 22).map (fun i=>(i.zero,i.size,i.bytes))=some (some (.int .u64 0),1,8):=by kernel_rfl
theorem Nw (A:Option Addr)(n c:Nat)(xs:List Value)(h:Sat ω w (row 22 1 (.slice A n c) n xs*F))(hn:n≤1000000)(h1:∀u∈xs,u.oneCell'=true):
  Calls prog 111 #[.slice A n c] w (RetR ω (row 22 1 (.slice A n c) n xs*F) 22 1 n xs):=by
 have H:=h_ h;have H1:=h_ h1;obtain⟨i0,hi,hz⟩:=Option.map_eq_some_iff.1 CJ;simp only[Prod.mk.injEq] at hz;obtain⟨hz0,hz1,hz2⟩:=hz;have HI:=h_ hi;have HZ0:=h_ hz0;have HZ1:=h_ hz1;have HZ2:=h_ hz2;rcases h.cases with⟨h2,h3,h4,h5⟩|⟨g,cap,cur,h2,h3,h4,h5,h6,h7,h8⟩
 ·injection h2 with h2a h2b h2c
  subst h2a h2c;clear hi hz0 hz1 hz2 h1 h5 H1;subst h3 h4;clear h h2b;have HX:=h_ (H.o.nil 22 1);have qT:∀(w:World) (a:Option Addr) (n c n' c':Nat),(binOp .eql 58 (.slice a n c) (.slice none n' c')).run prog w=.ok (.bool a.isNone) w:=fun w a n c n' c'=>Lib.run_eql_slice_nil w _ _ a n c n' c' underlying58
  go_enter func111,ntmps111;go_wp2;go_ret;exact⟨none,0,rfl,HX.o⟩
 ·injection h2 with h2a h2b h2c
  subst h2a;clear hi hz0 hz1 hz2 h1 h3 h4 h5 h6 h7 h8 h2b h2c;have HRD:Hid (Reads w w.heap.size 1 (some ⟨g,0,none⟩) n xs):=h_ h.reads;have HB:Hid (Sat ω (w.alloc (.cells #[] 22)) (row 22 1 (.slice w.heap.size 0 0) 0 []*(row 22 1 (.slice (some ⟨g,0,none⟩) n c) n xs*F))):=h_ (by
   have h9:=(h.new #[] 22).rowOf (n:=0) (size:=1) rfl (Nat.zero_le _);exact h9)
  clear h;have qT:∀(w:World) (a:Option Addr) (n c n' c':Nat),(binOp .eql 58 (.slice a n c) (.slice none n' c')).run prog w=.ok (.bool a.isNone) w:=fun w a n c n' c'=>Lib.run_eql_slice_nil w _ _ a n c n' c' underlying58
  go_enter func111,ntmps111;go_wp2_with (at_builtin;refine AB rfl _ _ 58 rfl 22 i0 _ 1 8 underlying58 HI.o HZ0.o HZ1.o HZ2.o rfl (by decide) _ _ _ rfl HB.o _ _ _ _ _ rfl (HRD.o.alloc (Nat.le_refl _) _) H1.o (by unfold maxLen;omega) (by omega) ?_;intro A' c' w' hs;simp only[Nat.zero_add,List.nil_append] at hs ⊢;have HS:=h_ hs;clear hs)
  go_ret;exact⟨_,_,rfl,HS.o⟩
theorem Ii:(prog.info? 87).map (fun i=>(i.zero,i.size,i.bytes))=some (some (.agg #[ι 0,ι 0,ι 0,ι 0,υ 0]),5,40):=by kernel_rfl
theorem Qf (A:Option Addr)(n c:Nat)(xs:List Value)(h:Sat ω w (row 87 5 (.slice A n c) n xs*F))(hn:n≤1000000)(h1:∀u∈xs,u.oneCell'=true):
  Calls prog 57 #[.slice A n c] w (RetR ω (row 87 5 (.slice A n c) n xs*F) 87 5 n xs):=by
 have H:=h_ h;have H1:=h_ h1;obtain⟨i0,hi,hz⟩:=Option.map_eq_some_iff.1 Ii;simp only[Prod.mk.injEq] at hz;obtain⟨hz0,hz1,hz2⟩:=hz;have HI:=h_ hi;have HZ0:=h_ hz0;have HZ1:=h_ hz1;have HZ2:=h_ hz2;rcases h.cases with⟨h2,h3,h4,h5⟩|⟨g,cap,cur,h2,h3,h4,h5,h6,h7,h8⟩
 ·injection h2 with h2a h2b h2c
  subst h2a h2c;clear hi hz0 hz1 hz2 h1 h5 H1;subst h3 h4;clear h h2b;have HX:=h_ (H.o.nil 87 5);have qT:∀(w:World) (a:Option Addr) (n c n' c':Nat),(binOp .eql 30 (.slice a n c) (.slice none n' c')).run prog w=.ok (.bool a.isNone) w:=fun w a n c n' c'=>Lib.run_eql_slice_nil w _ _ a n c n' c' underlying30
  go_enter func57,ntmps57;go_wp2;go_ret;exact⟨none,0,rfl,HX.o⟩
 ·injection h2 with h2a h2b h2c
  subst h2a;clear hi hz0 hz1 hz2 h1 h3 h4 h5 h6 h7 h8 h2b h2c;have HRD:Hid (Reads w w.heap.size 5 (some ⟨g,0,none⟩) n xs):=h_ h.reads;have HB:Hid (Sat ω (w.alloc (.cells #[] 87)) (row 87 5 (.slice w.heap.size 0 0) 0 []*(row 87 5 (.slice (some ⟨g,0,none⟩) n c) n xs*F))):=h_ (by
   have h9:=(h.new #[] 87).rowOf (n:=0) (size:=5) rfl (Nat.zero_le _);exact h9)
  clear h;have qT:∀(w:World) (a:Option Addr) (n c n' c':Nat),(binOp .eql 30 (.slice a n c) (.slice none n' c')).run prog w=.ok (.bool a.isNone) w:=fun w a n c n' c'=>Lib.run_eql_slice_nil w _ _ a n c n' c' underlying30
  go_enter func57,ntmps57;go_wp2_with (at_builtin;refine AB rfl _ _ 30 rfl 87 i0 _ 5 40 underlying30 HI.o HZ0.o HZ1.o HZ2.o rfl (by decide) _ _ _ rfl HB.o _ _ _ _ _ rfl (HRD.o.alloc (Nat.le_refl _) _) H1.o (by unfold maxLen;omega) (by omega) ?_;intro A' c' w' hs;simp only[Nat.zero_add,List.nil_append] at hs ⊢;have HS:=h_ hs;clear hs)
  go_ret;exact⟨_,_,rfl,HS.o⟩
theorem Ih:(prog.info? 66).map (fun i=>(i.zero,i.size,i.bytes))=some (some (.agg #[ι 0,ι 0,.string ⟨#[]⟩,υ 0]),4,40):=by kernel_rfl
theorem JE (A:Option Addr)(n c:Nat)(xs:List Value)(h:Sat ω w (row 66 4 (.slice A n c) n xs*F))(hn:n≤1000000)(h1:∀u∈xs,u.oneCell'=true):
  Calls prog 72 #[.slice A n c] w (RetR ω (row 66 4 (.slice A n c) n xs*F) 66 4 n xs):=by
 have H:=h_ h;have H1:=h_ h1;obtain⟨i0,hi,hz⟩:=Option.map_eq_some_iff.1 Ih;simp only[Prod.mk.injEq] at hz;obtain⟨hz0,hz1,hz2⟩:=hz;have HI:=h_ hi;have HZ0:=h_ hz0;have HZ1:=h_ hz1;have HZ2:=h_ hz2;rcases h.cases with⟨h2,h3,h4,h5⟩|⟨g,cap,cur,h2,h3,h4,h5,h6,h7,h8⟩
 ·injection h2 with h2a h2b h2c
  subst h2a h2c;clear hi hz0 hz1 hz2 h1 h5 H1;subst h3 h4;clear h h2b;have HX:=h_ (H.o.nil 66 4);have qT:∀(w:World) (a:Option Addr) (n c n' c':Nat),(binOp .eql 61 (.slice a n c) (.slice none n' c')).run prog w=.ok (.bool a.isNone) w:=fun w a n c n' c'=>Lib.run_eql_slice_nil w _ _ a n c n' c' underlying61
  go_enter func72,ntmps72;go_wp2;go_ret;exact⟨none,0,rfl,HX.o⟩
 ·injection h2 with h2a h2b h2c
  subst h2a;clear hi hz0 hz1 hz2 h1 h3 h4 h5 h6 h7 h8 h2b h2c;have HRD:Hid (Reads w w.heap.size 4 (some ⟨g,0,none⟩) n xs):=h_ h.reads;have HB:Hid (Sat ω (w.alloc (.cells #[] 66)) (row 66 4 (.slice w.heap.size 0 0) 0 []*(row 66 4 (.slice (some ⟨g,0,none⟩) n c) n xs*F))):=h_ (by
   have h9:=(h.new #[] 66).rowOf (n:=0) (size:=4) rfl (Nat.zero_le _);exact h9)
  clear h;have qT:∀(w:World) (a:Option Addr) (n c n' c':Nat),(binOp .eql 61 (.slice a n c) (.slice none n' c')).run prog w=.ok (.bool a.isNone) w:=fun w a n c n' c'=>Lib.run_eql_slice_nil w _ _ a n c n' c' underlying61
  go_enter func72,ntmps72;go_wp2_with (at_builtin;refine AB rfl _ _ 61 rfl 66 i0 _ 4 40 underlying61 HI.o HZ0.o HZ1.o HZ2.o rfl (by decide) _ _ _ rfl HB.o _ _ _ _ _ rfl (HRD.o.alloc (Nat.le_refl _) _) H1.o (by unfold maxLen;omega) (by omega) ?_;intro A' c' w' hs;simp only[Nat.zero_add,List.nil_append] at hs ⊢;have HS:=h_ hs;clear hs)
  go_ret;exact⟨_,_,rfl,HS.o⟩
end
end Go.Proofs.YtfodmgaliclhfaaGreatDoor
