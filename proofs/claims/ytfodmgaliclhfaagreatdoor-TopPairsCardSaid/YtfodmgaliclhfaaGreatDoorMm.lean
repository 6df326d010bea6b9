/- Lemmas for TopPairs; no conditions. -/
import Derived.Test.YtfodmgaliclhfaaGreatDoorGTail
namespace Go.Proofs.YtfodmgaliclhfaaGreatDoor
set_option linter.unusedVariables false
set_option linter.unusedSimpArgs false
set_option maxRecDepth 100000
set_option maxHeartbeats 4000000
open Go.RowKit
section
def opA (o:POp):Value:=.agg #[.int .i64 o.kind,.int .i64 o.at_,.int .u64 o.old,.int .u64 o.word,.int .u64 o.was.ver,.bool o.was.held,.int .i64 o.was.own,.int .u64 o.lock.ver,.bool o.lock.held,.int .i64 o.lock.own]
def ansA (a:PAns):Value:=.agg #[.int .u64 a.word,.int .u64 a.lock.ver,.bool a.lock.held,.int .i64 a.lock.own,.bool a.done,.int .i64 a.err]
structure MemA where
 bh:Nat
 bt:Nat
 bc:Nat
 bs:Nat
structure MSh where
 words:Nat
 stripes:Nat
 wide:Nat
 threads:Nat
 start:Nat
def memCells (s:MSh)(A:MemA)(count:Int):Array Value:=#[.int .i64 s.words,.int .i64 s.stripes,.int .i64 s.wide,.int .i64 s.threads,.int .u64 s.start,.pointer (some ⟨A.bh,0,none⟩),.pointer (some ⟨A.bt,0,none⟩),.pointer (some ⟨A.bc,0,none⟩),.pointer (some ⟨A.bs,0,none⟩),.int .i64 count]
def memHA (s:MSh)(b:Nat)(m:PMm)(A:MemA):HP:=bk b 130 (memCells s A m.count)*(heapH A.bh m.words*(tabH A.bt m.locks s.wide*(clkH A.bc m.clock*epH A.bs m.since)))
def memH (s:MSh)(b:Nat)(m:PMm):HP:=ex fun A:MemA=>memHA s b m A
structure PMm.fits (m:PMm):Prop where
 words:m.words.length≤1000
 locks:m.locks.length≤1000
 since:m.since.length≤1000
section
variable {ω w : World} {F : HP} {s : MSh} {b : Nat} {m : PMm} {A : MemA}
theorem memHA_heap:memHA s b m A*F=heapH A.bh m.words*(bk b 130 (memCells s A m.count)*(tabH A.bt m.locks s.wide*(clkH A.bc m.clock*epH A.bs m.since))*F):=by
 unfold memHA;ac_rfl
theorem memHA_tab:memHA s b m A*F=tabH A.bt m.locks s.wide*(bk b 130 (memCells s A m.count)*(heapH A.bh m.words*(clkH A.bc m.clock*epH A.bs m.since))*F):=by
 unfold memHA;ac_rfl
theorem memHA_clk:memHA s b m A*F=clkH A.bc m.clock*(bk b 130 (memCells s A m.count)*(heapH A.bh m.words*(tabH A.bt m.locks s.wide*epH A.bs m.since))*F):=by
 unfold memHA;ac_rfl
theorem memHA_ep:memHA s b m A*F=epH A.bs m.since*(bk b 130 (memCells s A m.count)*(heapH A.bh m.words*(tabH A.bt m.locks s.wide*clkH A.bc m.clock))*F):=by
 unfold memHA;ac_rfl
theorem memHA_top:memHA s b m A*F=bk b 130 (memCells s A m.count)*((heapH A.bh m.words*(tabH A.bt m.locks s.wide*(clkH A.bc m.clock*epH A.bs m.since)))*F):=by
 unfold memHA;ac_rfl
end
section
variable (ω w : World) (F : HP)
theorem heap_loadS (b:Nat)(ws:List Nat)(h:Sat ω w (heapH b ws*F))(hn:ws.length≤1000)(at_:Nat)(ha:at_≤1000000):
  Calls Tryz.prog 81 #[.pointer (some ⟨b,0,none⟩),.int .i64 at_] w (Rets ω F (.tuple #[.int .u64 ((if 1≤at_∧at_<ws.length then ws.getD at_ 0 else 0:Nat):Int),.int .i64 ((if 1≤at_∧at_<ws.length then 0 else 2:Nat):Int)]) (heapH b ws)) :=
 (heap_load ω w F b ws h hn at_ ha).mono fun e w' h1=>⟨h1.1,h1.2▸h⟩
theorem ep_loadS (b:Nat)(ws:List Nat)(h:Sat ω w (epH b ws*F))(hn:ws.length≤1000)(at_:Nat)(ha:at_≤1000000):
  Calls Tryz.prog 88 #[.pointer (some ⟨b,0,none⟩),.int .i64 at_] w (Rets ω F (.tuple #[.int .u64 ((if at_<ws.length then ws.getD at_ 0 else 0:Nat):Int),.int .i64 ((if at_<ws.length then 0 else 2:Nat):Int)]) (epH b ws)) :=
 (ep_load ω w F b ws h hn at_ ha).mono fun e w' h1=>⟨h1.1,h1.2▸h⟩
theorem tab_loadS (b:Nat)(ls:List PLk)(wide:Nat)(h:Sat ω w (tabH b ls wide*F))(hn:ls.length≤1000)(at_:Nat)(ha:at_≤1000000):
  Calls Tryz.prog 83 #[.pointer (some ⟨b,0,none⟩),.int .i64 at_] w (Rets ω F (.tuple #[lkA (if at_<ls.length then ls.getD at_ PLk.zero else PLk.zero),.int .i64 ((if at_<ls.length then 0 else 2:Nat):Int)]) (tabH b ls wide)) :=
 (tab_load ω w F b ls wide h hn at_ ha).mono fun e w' h1=>⟨h1.1,h.nob h1.2⟩
theorem clk_loadS (b n:Nat)(h:Sat ω w (clkH b n*F)):
  Calls Tryz.prog 86 #[.pointer (some ⟨b,0,none⟩)] w (Rets ω F (.int .u64 n) (clkH b n)) :=
 (clk_load w b n (h.blk.cell 0)).mono fun e w' h1=>⟨h1.1,h1.2▸h⟩
def casN (n old now:Nat):Bool×Nat×Nat :=
 if now≤old then(false,1,n) else if 4611686018427387904≤now then(false,7,n) else if n=old then(true,0,now) else(false,0,n)
theorem casN_E (n old now:Nat):casE n old now=((casN n old now).1,((casN n old now).2.1:Int),((casN n old now).2.2:Int)):=by
 unfold casE casN;by_cases h1:now≤old
 ·rw[if_pos h1,if_pos (by omega)];rfl
 ·rw[if_neg h1,if_neg (by omega)]
  by_cases h2:4611686018427387904≤now
  ·rw[if_pos h2,if_pos (by omega)];rfl
  ·rw[if_neg h2,if_neg (by omega)]
   by_cases h3:n=old
   ·rw[if_pos h3,if_pos (by omega)];rfl
   ·rw[if_neg h3,if_neg (by omega)];rfl
theorem casN_same {n old now:Nat}(h:(casN n old now).1=false):(casN n old now).2.2=n:=by
 unfold casN at h ⊢;split
 ·rfl
 ·split
  ·rfl
  ·split
   ·simp_all
   ·rfl
theorem casN_new {n old now:Nat}(h:(casN n old now).1=true):(casN n old now).2.2=now:=by
 unfold casN at h ⊢;split
 ·simp_all
 ·split
  ·simp_all
  ·split
   ·rfl
   ·simp_all
theorem clk_casS (b n old now:Nat)(h:Sat ω w (clkH b n*F)):
  Calls Tryz.prog 87 #[.pointer (some ⟨b,0,none⟩),.int .u64 old,.int .u64 now] w (Rets ω F (.tuple #[.bool (casN n old now).1,.int .i64 ((casN n old now).2.1:Int)]) (clkH b (casN n old now).2.2)):=by
 refine(clk_cas w b n old now (h.blk.cell 0) (h.blk.frozen 0)).mono fun e w' h1=>?_
 obtain⟨h2,h3⟩:=h1;rw[casN_E] at h2 h3;refine⟨h2,?_⟩;simp only at h3;by_cases hc:(casN n old now).1=true
 ·rw[if_pos hc] at h3;rw[h3,casN_new hc];exact h.put 0 _ rfl
 ·rw[if_neg hc] at h3;rw[h3,casN_same (by simpa using hc)]
  exact h
end
theorem do_word (ω w:World)(F:HP)(s:MSh)(b:Nat)(m:PMm)(A:MemA)(h:Sat ω w (memHA s b m A*F))(hf:m.fits)(o:POp)(ho:o.at_≤1000000)(hk:o.kind=1):
  Calls Tryz.prog 55 #[.pointer (some ⟨b,0,none⟩),opA o] w (Rets ω F (ansA (doM m o).1) (memHA s b (doM m o).2 A)):=by
 obtain⟨kind,at_,old,word,⟨wv,wh,wo⟩,⟨lv,lh,lo⟩⟩:=o;simp only at hk ho;subst hk;have h5:=h.perm memHA_top;have c5:w.cell? ⟨b,5,none⟩=some (.pointer (some ⟨A.bh,0,none⟩)):=h5.blk.cell 5;have hb:=h5.blk.lt;have hb1:b<w.heap.size+1:=by omega
 have hb2:b<w.heap.size+1+1:=by omega
 obtain⟨R,hR⟩:∃R,R=bk b 130 (memCells s A m.count)*(tabH A.bt m.locks s.wide*(clkH A.bc m.clock*epH A.bs m.since))*F:=⟨_,rfl⟩;have h1:=((h.perm memHA_heap).junk (.cells #[.int .i64 1,.int .i64 at_,.int .u64 old,.int .u64 word,.int .u64 wv,.bool wh,.int .i64 wo,.int .u64 lv,.bool lh,.int .i64 lo] 95)).new #[.int .u64 0,.int .u64 0,.bool false,.int .i64 0,.bool false,.int .i64 0] 100 |>.new #[.int .u64 0,.int .u64 0,.bool false,.int .i64 0,.bool false,.int .i64 0] 100
 simp only[World.size_alloc] at h1;rw[←hR] at h1;have H1:=h_ ((h1.perm (by ac_rfl):Sat ω _ (heapH A.bh m.words*(bk (w.heap.size+1+1) 100 #[.int .u64 0,.int .u64 0,.bool false,.int .i64 0,.bool false,.int .i64 0]*(bk (w.heap.size+1) 100 #[.int .u64 0,.int .u64 0,.bool false,.int .i64 0,.bool false,.int .i64 0]*R)))))
 have HR:Hid (doM m ⟨1,at_,old,word,⟨wv,wh,wo⟩,⟨lv,lh,lo⟩⟩=({ PAns.zero with word:=if 1≤at_∧at_<m.words.length then m.words.getD at_ 0 else 0,err:=if 1≤at_∧at_<m.words.length then 0 else 2 },m)):=h_ (by
  unfold doM;simp only;by_cases h1:1≤at_∧at_<m.words.length
  ·simp only[if_pos h1]<;>rfl
  ·simp only[if_neg h1]<;>rfl)
 rw[HR.o];have HL:=h_ (fun w1 F1 (h1:Sat ω w1 (heapH A.bh m.words*F1))=>heap_loadS ω w1 F1 A.bh m.words h1 hf.words at_ ho)
 generalize (if 1≤at_∧at_<m.words.length then m.words.getD at_ 0 else 0)=x at *
 generalize (if 1≤at_∧at_<m.words.length then 0 else 2)=y at *
 clear h h5 h1 HR;have HF:Hid (∀w1,Sat ω w1 (heapH A.bh m.words*R)→Sat ω w1 (memHA s b m A*F)):=h_ (fun w1 h1=>by
  rw[hR] at h1;exact h1.perm (memHA_heap (m:=m)).symm)
 clear hR;simp only[opA,ansA,PAns.zero,PLk.zero,lkA] at HL ⊢;go_enter Tryz.func55,Tryz.ntmps55;go_wp2;refine region_head 6 #[true,true,true,true,true,true,false,false,false,false,false,false,false,false] (by kernel_rfl) (by kernel_rfl) ?_
 simp only[List.take_succ_cons,List.take_zero];repeat still_step
 refine wpStill_nil ?_;refine oF 6 rfl fun K hK=>?_
 go_simp
 (go_at_call 81;refine(HL.o _ _ (by repeat' (first|(with_reducible first|exact H1.o|refine Sat.drewN ?_ _|refine Sat.drew ?_)))).mono ?_;rintro e w1 ⟨rfl,hs⟩;have k:=hs.right.blk;obtain⟨k0,k1,k2,k3,k4,k5⟩:=k.six;have kf:=k.frozen;have kl:=k.lt;have q:=hs.right.right.blk;obtain⟨q0,q1,q2,q3,q4,q5⟩:=q.six;have qf:=q.frozen;have ql:=q.lt;have HS:=h_ ((hs.perm (by ac_rfl):Sat ω w1 (bk (w.heap.size+1+1) 100 #[.int .u64 0,.int .u64 0,.bool false,.int .i64 0,.bool false,.int .i64 0]*(bk (w.heap.size+1) 100 #[.int .u64 0,.int .u64 0,.bool false,.int .i64 0,.bool false,.int .i64 0]*(heapH A.bh m.words*R)))).jk2);clear k q hs)
 refine hK _ _ ?_;clear hK K;refine tF 7 ?_ rfl ?_ (tF 8 ?_ rfl ?_ (tF 9 ?_ rfl ?_ (tF 10 ?_ rfl ?_ ?_)));all_goals (try (
  intro w;go_simp<;>(try with_reducible rfl)))
 refine oF 11 rfl fun K hK=>?_
 go_simp;refine hK _ _ ?_;clear hK K;refine tF 12 ?_ rfl ?_ ?_;all_goals (try (
  intro w;go_simp<;>(try with_reducible rfl)))
 refine oF 13 rfl fun K hK=>?_
 go_simp;refine hK _ _ ?_;clear hK K;refine dF ?_;go_wp2;refine bodyPost_ret (v:=.agg #[.int .u64 x,.int .u64 0,.bool false,.int .i64 0,.bool false,.int .i64 y]) (by simp[results,Tryz.results55,go_sem, *]) rfl ⟨rfl,?_⟩
 refine HF.o _ (Sat.right (P:=jk (fun k=>k=w.heap.size+1+1∨k=w.heap.size+1)) ?_)
 repeat' (first|(with_reducible first|exact HS.o|refine Sat.setJ ?_ ?_ _|refine Sat.drew ?_|refine Sat.drewN ?_ _)|exact .inl rfl|exact .inr rfl)
theorem do_setWord (ω w:World)(F:HP)(s:MSh)(b:Nat)(m:PMm)(A:MemA)(h:Sat ω w (memHA s b m A*F))(hf:m.fits)(o:POp)(ho:o.at_≤1000000)(hk:o.kind=2):
  Calls Tryz.prog 55 #[.pointer (some ⟨b,0,none⟩),opA o] w (Rets ω F (ansA (doM m o).1) (memHA s b (doM m o).2 A)):=by
 obtain⟨kind,at_,old,word,⟨wv,wh,wo⟩,⟨lv,lh,lo⟩⟩:=o;simp only at hk ho;subst hk;have h5:=h.perm memHA_top;have c5:w.cell? ⟨b,5,none⟩=some (.pointer (some ⟨A.bh,0,none⟩)):=h5.blk.cell 5;have hb:=h5.blk.lt;have hb1:b<w.heap.size+1:=by omega
 have hb2:b<w.heap.size+1+1:=by omega
 obtain⟨R,hR⟩:∃R,R=bk b 130 (memCells s A m.count)*(tabH A.bt m.locks s.wide*(clkH A.bc m.clock*epH A.bs m.since))*F:=⟨_,rfl⟩;have h1:=((h.perm memHA_heap).junk (.cells #[.int .i64 2,.int .i64 at_,.int .u64 old,.int .u64 word,.int .u64 wv,.bool wh,.int .i64 wo,.int .u64 lv,.bool lh,.int .i64 lo] 95)).new #[.int .u64 0,.int .u64 0,.bool false,.int .i64 0,.bool false,.int .i64 0] 100 |>.new #[.int .u64 0,.int .u64 0,.bool false,.int .i64 0,.bool false,.int .i64 0] 100
 simp only[World.size_alloc] at h1;rw[←hR] at h1;have H1:=h_ ((h1.perm (by ac_rfl):Sat ω _ (heapH A.bh m.words*(bk (w.heap.size+1+1) 100 #[.int .u64 0,.int .u64 0,.bool false,.int .i64 0,.bool false,.int .i64 0]*(bk (w.heap.size+1) 100 #[.int .u64 0,.int .u64 0,.bool false,.int .i64 0,.bool false,.int .i64 0]*R)))))
 have HR:Hid (doM m ⟨2,at_,old,word,⟨wv,wh,wo⟩,⟨lv,lh,lo⟩⟩=({ PAns.zero with err:=if 1≤at_∧at_<m.words.length then 0 else 2 },{ m with words:=(if 1≤at_∧at_<m.words.length then m.words.set at_ word else m.words) })):=h_ (by
  unfold doM;simp only;by_cases h1:1≤at_∧at_<m.words.length
  ·simp only[if_pos h1]<;>rfl
  ·simp only[if_neg h1]<;>rfl)
 rw[HR.o];have HL:=h_ (fun w1 F1 (h1:Sat ω w1 (heapH A.bh m.words*F1))=>heap_store ω w1 F1 A.bh m.words h1 hf.words at_ word ho)
 generalize (if 1≤at_∧at_<m.words.length then m.words.set at_ word else m.words)=ws at *
 generalize (if 1≤at_∧at_<m.words.length then 0 else 2)=y at *
 clear h h5 h1 HR;have HF:Hid (∀w1,Sat ω w1 (heapH A.bh ws*R)→Sat ω w1 (memHA s b { m with words:=ws } A*F)):=h_ (fun w1 h1=>by
  rw[hR] at h1;exact h1.perm (memHA_heap (m:={ m with words:=ws })).symm)
 clear hR;simp only[opA,ansA,PAns.zero,PLk.zero,lkA] at HL ⊢;go_enter Tryz.func55,Tryz.ntmps55;go_wp2;refine rT 8 ?_;simp only[sD,sE,sF,sG];repeat still_step
 refine wpStill_nil ?_;go_wp2_with ((go_at_call 82;refine(HL.o _ _ (by repeat' (first|(with_reducible first|exact H1.o|refine Sat.drewN ?_ _|refine Sat.drew ?_)))).mono ?_;rintro e w1 ⟨rfl,hs⟩;have k:=hs.right.blk;obtain⟨k0,k1,k2,k3,k4,k5⟩:=k.six;have kf:=k.frozen;have kl:=k.lt;have q:=hs.right.right.blk;obtain⟨q0,q1,q2,q3,q4,q5⟩:=q.six;have qf:=q.frozen;have ql:=q.lt;have HS:=h_ ((hs.perm (by ac_rfl):Sat ω w1 (bk (w.heap.size+1+1) 100 #[.int .u64 0,.int .u64 0,.bool false,.int .i64 0,.bool false,.int .i64 0]*(bk (w.heap.size+1) 100 #[.int .u64 0,.int .u64 0,.bool false,.int .i64 0,.bool false,.int .i64 0]*(heapH A.bh ws*R)))).jk2);clear k q hs))
 refine bodyPost_ret (v:=.agg #[.int .u64 0,.int .u64 0,.bool false,.int .i64 0,.bool false,.int .i64 y]) (by simp[results,Tryz.results55,go_sem, *]) rfl ⟨rfl,?_⟩
 refine HF.o _ (Sat.right (P:=jk (fun k=>k=w.heap.size+1+1∨k=w.heap.size+1)) ?_)
 repeat' (first|(with_reducible first|exact HS.o|refine Sat.setJ ?_ ?_ _|refine Sat.drew ?_|refine Sat.drewN ?_ _)|exact .inl rfl|exact .inr rfl)
theorem do_lock (ω w:World)(F:HP)(s:MSh)(b:Nat)(m:PMm)(A:MemA)(h:Sat ω w (memHA s b m A*F))(hf:m.fits)(o:POp)(ho:o.at_≤1000000)(hk:o.kind=3):
  Calls Tryz.prog 55 #[.pointer (some ⟨b,0,none⟩),opA o] w (Rets ω F (ansA (doM m o).1) (memHA s b (doM m o).2 A)):=by
 obtain⟨kind,at_,old,word,⟨wv,wh,wo⟩,⟨lv,lh,lo⟩⟩:=o;simp only at hk ho;subst hk;have h5:=h.perm memHA_top;have c5:w.cell? ⟨b,6,none⟩=some (.pointer (some ⟨A.bt,0,none⟩)):=h5.blk.cell 6;have hb:=h5.blk.lt;have hb1:b<w.heap.size+1:=by omega
 have hb2:b<w.heap.size+1+1:=by omega
 obtain⟨R,hR⟩:∃R,R=bk b 130 (memCells s A m.count)*(heapH A.bh m.words*(clkH A.bc m.clock*epH A.bs m.since))*F:=⟨_,rfl⟩;have h1:=((h.perm memHA_tab).junk (.cells #[.int .i64 3,.int .i64 at_,.int .u64 old,.int .u64 word,.int .u64 wv,.bool wh,.int .i64 wo,.int .u64 lv,.bool lh,.int .i64 lo] 95)).new #[.int .u64 0,.int .u64 0,.bool false,.int .i64 0,.bool false,.int .i64 0] 100 |>.new #[.int .u64 0,.int .u64 0,.bool false,.int .i64 0,.bool false,.int .i64 0] 100
 simp only[World.size_alloc] at h1;rw[←hR] at h1;have H1:=h_ ((h1.perm (by ac_rfl):Sat ω _ (tabH A.bt m.locks s.wide*(bk (w.heap.size+1+1) 100 #[.int .u64 0,.int .u64 0,.bool false,.int .i64 0,.bool false,.int .i64 0]*(bk (w.heap.size+1) 100 #[.int .u64 0,.int .u64 0,.bool false,.int .i64 0,.bool false,.int .i64 0]*R)))))
 have HR:Hid (doM m ⟨3,at_,old,word,⟨wv,wh,wo⟩,⟨lv,lh,lo⟩⟩=({ PAns.zero with lock:=if at_<m.locks.length then m.locks.getD at_ PLk.zero else PLk.zero,err:=if at_<m.locks.length then 0 else 2 },m)):=h_ (by
  unfold doM;simp only;by_cases h1:at_<m.locks.length
  ·simp only[if_pos h1]<;>rfl
  ·simp only[if_neg h1]<;>rfl)
 rw[HR.o];have HL:=h_ (fun w1 F1 (h1:Sat ω w1 (tabH A.bt m.locks s.wide*F1))=>tab_loadS ω w1 F1 A.bt m.locks s.wide h1 hf.locks at_ ho)
 generalize (if at_<m.locks.length then m.locks.getD at_ PLk.zero else PLk.zero)=x at *
 generalize (if at_<m.locks.length then 0 else 2)=y at *
 obtain⟨xv,xh,xo⟩:=x;clear h h5 h1 HR;have HF:Hid (∀w1,Sat ω w1 (tabH A.bt m.locks s.wide*R)→Sat ω w1 (memHA s b m A*F)):=h_ (fun w1 h1=>by
  rw[hR] at h1;exact h1.perm (memHA_tab (m:=m)).symm)
 clear hR;simp only[opA,ansA,PAns.zero,PLk.zero,lkA] at HL ⊢;go_enter Tryz.func55,Tryz.ntmps55;go_wp2;refine region_head 6 #[true,true,true,true,true,true,false,false,false,false,false,false,false,false] (by kernel_rfl) (by kernel_rfl) ?_
 simp only[List.take_succ_cons,List.take_zero];repeat still_step
 refine wpStill_nil ?_;refine oF 6 rfl fun K hK=>?_
 go_simp
 (go_at_call 83;refine(HL.o _ _ (by repeat' (first|(with_reducible first|exact H1.o|refine Sat.drewN ?_ _|refine Sat.drew ?_)))).mono ?_;rintro e w1 ⟨rfl,hs⟩;have k:=hs.right.blk;obtain⟨k0,k1,k2,k3,k4,k5⟩:=k.six;have kf:=k.frozen;have kl:=k.lt;have q:=hs.right.right.blk;obtain⟨q0,q1,q2,q3,q4,q5⟩:=q.six;have qf:=q.frozen;have ql:=q.lt;have HS:=h_ ((hs.perm (by ac_rfl):Sat ω w1 (bk (w.heap.size+1+1) 100 #[.int .u64 0,.int .u64 0,.bool false,.int .i64 0,.bool false,.int .i64 0]*(bk (w.heap.size+1) 100 #[.int .u64 0,.int .u64 0,.bool false,.int .i64 0,.bool false,.int .i64 0]*(tabH A.bt m.locks s.wide*R)))).jk2);clear k q hs)
 refine hK _ _ ?_;clear hK K;refine tF 7 ?_ rfl ?_ (tF 8 ?_ rfl ?_ (tF 9 ?_ rfl ?_ (tF 10 ?_ rfl ?_ ?_)));all_goals (try (
  intro w;go_simp<;>(try with_reducible rfl)))
 refine oF 11 rfl fun K hK=>?_
 go_simp;refine hK _ _ ?_;clear hK K;refine tF 12 ?_ rfl ?_ ?_;all_goals (try (
  intro w;go_simp<;>(try with_reducible rfl)))
 refine oF 13 rfl fun K hK=>?_
 go_simp;refine hK _ _ ?_;clear hK K;refine dF ?_;go_wp2;refine bodyPost_ret (v:=.agg #[.int .u64 0,.int .u64 xv,.bool xh,.int .i64 xo,.bool false,.int .i64 y]) (by simp[results,Tryz.results55,go_sem, *]) rfl ⟨rfl,?_⟩
 refine HF.o _ (Sat.right (P:=jk (fun k=>k=w.heap.size+1+1∨k=w.heap.size+1)) ?_)
 repeat' (first|(with_reducible first|exact HS.o|refine Sat.setJ ?_ ?_ _|refine Sat.drew ?_|refine Sat.drewN ?_ _)|exact .inl rfl|exact .inr rfl)
theorem do_casLock (ω w:World)(F:HP)(s:MSh)(b:Nat)(m:PMm)(A:MemA)(h:Sat ω w (memHA s b m A*F))(hf:m.fits)(o:POp)(ho:o.at_≤1000000)(hk:o.kind=4):
  Calls Tryz.prog 55 #[.pointer (some ⟨b,0,none⟩),opA o] w (Rets ω F (ansA (doM m o).1) (memHA s b (doM m o).2 A)):=by
 obtain⟨kind,at_,old,word,⟨wv,wh,wo⟩,⟨lv,lh,lo⟩⟩:=o;simp only at hk ho;subst hk;have h5:=h.perm memHA_top;have c5:w.cell? ⟨b,6,none⟩=some (.pointer (some ⟨A.bt,0,none⟩)):=h5.blk.cell 6;have hb:=h5.blk.lt;have hb1:b<w.heap.size+1:=by omega
 have hb2:b<w.heap.size+1+1:=by omega
 obtain⟨R,hR⟩:∃R,R=bk b 130 (memCells s A m.count)*(heapH A.bh m.words*(clkH A.bc m.clock*epH A.bs m.since))*F:=⟨_,rfl⟩;have h1:=((h.perm memHA_tab).junk (.cells #[.int .i64 4,.int .i64 at_,.int .u64 old,.int .u64 word,.int .u64 wv,.bool wh,.int .i64 wo,.int .u64 lv,.bool lh,.int .i64 lo] 95)).new #[.int .u64 0,.int .u64 0,.bool false,.int .i64 0,.bool false,.int .i64 0] 100 |>.new #[.int .u64 0,.int .u64 0,.bool false,.int .i64 0,.bool false,.int .i64 0] 100
 simp only[World.size_alloc] at h1;rw[←hR] at h1;have H1:=h_ ((h1.perm (by ac_rfl):Sat ω _ (tabH A.bt m.locks s.wide*(bk (w.heap.size+1+1) 100 #[.int .u64 0,.int .u64 0,.bool false,.int .i64 0,.bool false,.int .i64 0]*(bk (w.heap.size+1) 100 #[.int .u64 0,.int .u64 0,.bool false,.int .i64 0,.bool false,.int .i64 0]*R)))))
 have HR:Hid (doM m ⟨4,at_,old,word,⟨wv,wh,wo⟩,⟨lv,lh,lo⟩⟩=({ PAns.zero with done:=decide (mayE m.locks at_ ⟨lv,lh,lo⟩=0∧m.locks.getD at_ PLk.zero=⟨wv,wh,wo⟩),err:=mayE m.locks at_ ⟨lv,lh,lo⟩ },{ m with locks:=(if mayE m.locks at_ ⟨lv,lh,lo⟩=0∧m.locks.getD at_ PLk.zero=⟨wv,wh,wo⟩ then m.locks.set at_ ⟨lv,lh,lo⟩ else m.locks) })):=h_ (by
  unfold doM mayE;simp only;by_cases h1:at_<m.locks.length
  ·simp only[if_pos h1];by_cases h2:PLk.ok ⟨lv,lh,lo⟩=true
   ·simp only[if_pos h2];by_cases h3:m.locks.getD at_ PLk.zero=⟨wv,wh,wo⟩
    ·simp only[if_pos h3,h3];simp;rfl
    ·simp only[if_neg h3,h3];simp;rfl
   ·simp only[if_neg h2];simp;rfl
  ·simp only[if_neg h1];simp;rfl)
 rw[HR.o];have HL:=h_ (fun w1 F1 (h1:Sat ω w1 (tabH A.bt m.locks s.wide*F1))=>tab_cas ω w1 F1 A.bt m.locks s.wide h1 hf.locks at_ ho ⟨wv,wh,wo⟩ ⟨lv,lh,lo⟩)
 generalize (if mayE m.locks at_ ⟨lv,lh,lo⟩=0∧m.locks.getD at_ PLk.zero=⟨wv,wh,wo⟩ then m.locks.set at_ ⟨lv,lh,lo⟩ else m.locks)=ls at *
 generalize (decide (mayE m.locks at_ ⟨lv,lh,lo⟩=0∧m.locks.getD at_ PLk.zero=⟨wv,wh,wo⟩))=d at *
 generalize (mayE m.locks at_ ⟨lv,lh,lo⟩)=y at *
 clear h h5 h1 HR;have HF:Hid (∀w1,Sat ω w1 (tabH A.bt ls s.wide*R)→Sat ω w1 (memHA s b { m with locks:=ls } A*F)):=h_ (fun w1 h1=>by
  rw[hR] at h1;exact h1.perm (memHA_tab (m:={ m with locks:=ls })).symm)
 clear hR;simp only[opA,ansA,PAns.zero,PLk.zero,lkA] at HL ⊢;go_enter Tryz.func55,Tryz.ntmps55;go_wp2;refine region_head 10 #[true,true,true,true,true,true,true,true,true,true,false,false,false,false,false,false,false,false] (by kernel_rfl) (by kernel_rfl) ?_
 simp only[List.take_succ_cons,List.take_zero];repeat still_step
 refine wpStill_nil ?_;refine oF 10 rfl fun K hK=>?_
 go_simp
 (go_at_call 84;refine(HL.o _ _ (by repeat' (first|(with_reducible first|exact H1.o|refine Sat.drewN ?_ _|refine Sat.drew ?_)))).mono ?_;rintro e w1 ⟨rfl,hs⟩;have k:=hs.right.blk;obtain⟨k0,k1,k2,k3,k4,k5⟩:=k.six;have kf:=k.frozen;have kl:=k.lt;have q:=hs.right.right.blk;obtain⟨q0,q1,q2,q3,q4,q5⟩:=q.six;have qf:=q.frozen;have ql:=q.lt;have HS:=h_ ((hs.perm (by ac_rfl):Sat ω w1 (bk (w.heap.size+1+1) 100 #[.int .u64 0,.int .u64 0,.bool false,.int .i64 0,.bool false,.int .i64 0]*(bk (w.heap.size+1) 100 #[.int .u64 0,.int .u64 0,.bool false,.int .i64 0,.bool false,.int .i64 0]*(tabH A.bt ls s.wide*R)))).jk2);clear k q hs)
 refine hK _ _ ?_;clear hK K;refine tF 11 ?_ rfl ?_ (tF 12 ?_ rfl ?_ (tF 13 ?_ rfl ?_ (tF 14 ?_ rfl ?_ ?_)));all_goals (try (
  intro w;go_simp<;>(try with_reducible rfl)))
 refine oF 15 rfl fun K hK=>?_
 go_simp;refine hK _ _ ?_;clear hK K;refine tF 16 ?_ rfl ?_ ?_;all_goals (try (
  intro w;go_simp<;>(try with_reducible rfl)))
 refine oF 17 rfl fun K hK=>?_
 go_simp;refine hK _ _ ?_;clear hK K;refine dF ?_;go_wp2;refine bodyPost_ret (v:=.agg #[.int .u64 0,.int .u64 0,.bool false,.int .i64 0,.bool d,.int .i64 y]) (by simp[results,Tryz.results55,go_sem, *]) rfl ⟨rfl,?_⟩
 refine HF.o _ (Sat.right (P:=jk (fun k=>k=w.heap.size+1+1∨k=w.heap.size+1)) ?_)
 repeat' (first|(with_reducible first|exact HS.o|refine Sat.setJ ?_ ?_ _|refine Sat.drew ?_|refine Sat.drewN ?_ _)|exact .inl rfl|exact .inr rfl)
theorem do_setLock (ω w:World)(F:HP)(s:MSh)(b:Nat)(m:PMm)(A:MemA)(h:Sat ω w (memHA s b m A*F))(hf:m.fits)(o:POp)(ho:o.at_≤1000000)(hk:o.kind=5):
  Calls Tryz.prog 55 #[.pointer (some ⟨b,0,none⟩),opA o] w (Rets ω F (ansA (doM m o).1) (memHA s b (doM m o).2 A)):=by
 obtain⟨kind,at_,old,word,⟨wv,wh,wo⟩,⟨lv,lh,lo⟩⟩:=o;simp only at hk ho;subst hk;have h5:=h.perm memHA_top;have c5:w.cell? ⟨b,6,none⟩=some (.pointer (some ⟨A.bt,0,none⟩)):=h5.blk.cell 6;have hb:=h5.blk.lt;have hb1:b<w.heap.size+1:=by omega
 have hb2:b<w.heap.size+1+1:=by omega
 obtain⟨R,hR⟩:∃R,R=bk b 130 (memCells s A m.count)*(heapH A.bh m.words*(clkH A.bc m.clock*epH A.bs m.since))*F:=⟨_,rfl⟩;have h1:=((h.perm memHA_tab).junk (.cells #[.int .i64 5,.int .i64 at_,.int .u64 old,.int .u64 word,.int .u64 wv,.bool wh,.int .i64 wo,.int .u64 lv,.bool lh,.int .i64 lo] 95)).new #[.int .u64 0,.int .u64 0,.bool false,.int .i64 0,.bool false,.int .i64 0] 100 |>.new #[.int .u64 0,.int .u64 0,.bool false,.int .i64 0,.bool false,.int .i64 0] 100
 simp only[World.size_alloc] at h1;rw[←hR] at h1;have H1:=h_ ((h1.perm (by ac_rfl):Sat ω _ (tabH A.bt m.locks s.wide*(bk (w.heap.size+1+1) 100 #[.int .u64 0,.int .u64 0,.bool false,.int .i64 0,.bool false,.int .i64 0]*(bk (w.heap.size+1) 100 #[.int .u64 0,.int .u64 0,.bool false,.int .i64 0,.bool false,.int .i64 0]*R)))))
 have HR:Hid (doM m ⟨5,at_,old,word,⟨wv,wh,wo⟩,⟨lv,lh,lo⟩⟩=({ PAns.zero with err:=mayE m.locks at_ ⟨lv,lh,lo⟩ },{ m with locks:=(if mayE m.locks at_ ⟨lv,lh,lo⟩=0 then m.locks.set at_ ⟨lv,lh,lo⟩ else m.locks) })):=h_ (by
  unfold doM mayE;simp only;by_cases h1:at_<m.locks.length
  ·simp only[if_pos h1];by_cases h2:PLk.ok ⟨lv,lh,lo⟩=true
   ·simp only[if_pos h2];simp;rfl
   ·simp only[if_neg h2];simp
  ·simp only[if_neg h1];simp)
 rw[HR.o];have HL:=h_ (fun w1 F1 (h1:Sat ω w1 (tabH A.bt m.locks s.wide*F1))=>tab_store ω w1 F1 A.bt m.locks s.wide h1 hf.locks at_ ho ⟨lv,lh,lo⟩)
 generalize (if mayE m.locks at_ ⟨lv,lh,lo⟩=0 then m.locks.set at_ ⟨lv,lh,lo⟩ else m.locks)=ls at *
 generalize (mayE m.locks at_ ⟨lv,lh,lo⟩)=y at *
 clear h h5 h1 HR;have HF:Hid (∀w1,Sat ω w1 (tabH A.bt ls s.wide*R)→Sat ω w1 (memHA s b { m with locks:=ls } A*F)):=h_ (fun w1 h1=>by
  rw[hR] at h1;exact h1.perm (memHA_tab (m:={ m with locks:=ls })).symm)
 clear hR;simp only[opA,ansA,PAns.zero,PLk.zero,lkA] at HL ⊢;go_enter Tryz.func55,Tryz.ntmps55;go_wp2;refine rT 8 ?_;simp only[sD,sE,sF,sG];repeat still_step
 refine wpStill_nil ?_;go_wp2_with ((go_at_call 85;refine(HL.o _ _ (by repeat' (first|(with_reducible first|exact H1.o|refine Sat.drewN ?_ _|refine Sat.drew ?_)))).mono ?_;rintro e w1 ⟨rfl,hs⟩;have k:=hs.right.blk;obtain⟨k0,k1,k2,k3,k4,k5⟩:=k.six;have kf:=k.frozen;have kl:=k.lt;have q:=hs.right.right.blk;obtain⟨q0,q1,q2,q3,q4,q5⟩:=q.six;have qf:=q.frozen;have ql:=q.lt;have HS:=h_ ((hs.perm (by ac_rfl):Sat ω w1 (bk (w.heap.size+1+1) 100 #[.int .u64 0,.int .u64 0,.bool false,.int .i64 0,.bool false,.int .i64 0]*(bk (w.heap.size+1) 100 #[.int .u64 0,.int .u64 0,.bool false,.int .i64 0,.bool false,.int .i64 0]*(tabH A.bt ls s.wide*R)))).jk2);clear k q hs))
 refine bodyPost_ret (v:=.agg #[.int .u64 0,.int .u64 0,.bool false,.int .i64 0,.bool false,.int .i64 y]) (by simp[results,Tryz.results55,go_sem, *]) rfl ⟨rfl,?_⟩
 refine HF.o _ (Sat.right (P:=jk (fun k=>k=w.heap.size+1+1∨k=w.heap.size+1)) ?_)
 repeat' (first|(with_reducible first|exact HS.o|refine Sat.setJ ?_ ?_ _|refine Sat.drew ?_|refine Sat.drewN ?_ _)|exact .inl rfl|exact .inr rfl)
theorem do_clock (ω w:World)(F:HP)(s:MSh)(b:Nat)(m:PMm)(A:MemA)(h:Sat ω w (memHA s b m A*F))(hf:m.fits)(o:POp)(ho:o.at_≤1000000)(hk:o.kind=6):
  Calls Tryz.prog 55 #[.pointer (some ⟨b,0,none⟩),opA o] w (Rets ω F (ansA (doM m o).1) (memHA s b (doM m o).2 A)):=by
 obtain⟨kind,at_,old,word,⟨wv,wh,wo⟩,⟨lv,lh,lo⟩⟩:=o;simp only at hk ho;subst hk;have h5:=h.perm memHA_top;have c5:w.cell? ⟨b,7,none⟩=some (.pointer (some ⟨A.bc,0,none⟩)):=h5.blk.cell 7;have hb:=h5.blk.lt;have hb1:b<w.heap.size+1:=by omega
 have hb2:b<w.heap.size+1+1:=by omega
 obtain⟨R,hR⟩:∃R,R=bk b 130 (memCells s A m.count)*(heapH A.bh m.words*(tabH A.bt m.locks s.wide*epH A.bs m.since))*F:=⟨_,rfl⟩;have h1:=((h.perm memHA_clk).junk (.cells #[.int .i64 6,.int .i64 at_,.int .u64 old,.int .u64 word,.int .u64 wv,.bool wh,.int .i64 wo,.int .u64 lv,.bool lh,.int .i64 lo] 95)).new #[.int .u64 0,.int .u64 0,.bool false,.int .i64 0,.bool false,.int .i64 0] 100 |>.new #[.int .u64 0,.int .u64 0,.bool false,.int .i64 0,.bool false,.int .i64 0] 100
 simp only[World.size_alloc] at h1;rw[←hR] at h1;have H1:=h_ ((h1.perm (by ac_rfl):Sat ω _ (clkH A.bc m.clock*(bk (w.heap.size+1+1) 100 #[.int .u64 0,.int .u64 0,.bool false,.int .i64 0,.bool false,.int .i64 0]*(bk (w.heap.size+1) 100 #[.int .u64 0,.int .u64 0,.bool false,.int .i64 0,.bool false,.int .i64 0]*R)))))
 have HR:Hid (doM m ⟨6,at_,old,word,⟨wv,wh,wo⟩,⟨lv,lh,lo⟩⟩=({ PAns.zero with word:=m.clock },m)):=h_ (by rfl)
 rw[HR.o];have HL:=h_ (fun w1 F1 (h1:Sat ω w1 (clkH A.bc m.clock*F1))=>clk_loadS ω w1 F1 A.bc m.clock h1)
 clear h h5 h1 HR;have HF:Hid (∀w1,Sat ω w1 (clkH A.bc m.clock*R)→Sat ω w1 (memHA s b m A*F)):=h_ (fun w1 h1=>by
  rw[hR] at h1;exact h1.perm (memHA_clk (m:=m)).symm)
 clear hR;simp only[opA,ansA,PAns.zero,PLk.zero,lkA] at HL ⊢;go_enter Tryz.func55,Tryz.ntmps55;go_wp2_with ((go_at_call 86;refine(HL.o _ _ (by repeat' (first|(with_reducible first|exact H1.o|refine Sat.drewN ?_ _|refine Sat.drew ?_)))).mono ?_;rintro e w1 ⟨rfl,hs⟩;have k:=hs.right.blk;obtain⟨k0,k1,k2,k3,k4,k5⟩:=k.six;have kf:=k.frozen;have kl:=k.lt;have q:=hs.right.right.blk;obtain⟨q0,q1,q2,q3,q4,q5⟩:=q.six;have qf:=q.frozen;have ql:=q.lt;have HS:=h_ ((hs.perm (by ac_rfl):Sat ω w1 (bk (w.heap.size+1+1) 100 #[.int .u64 0,.int .u64 0,.bool false,.int .i64 0,.bool false,.int .i64 0]*(bk (w.heap.size+1) 100 #[.int .u64 0,.int .u64 0,.bool false,.int .i64 0,.bool false,.int .i64 0]*(clkH A.bc m.clock*R)))).jk2);clear k q hs))
 refine bodyPost_ret (v:=.agg #[.int .u64 m.clock,.int .u64 0,.bool false,.int .i64 0,.bool false,.int .i64 0]) (by simp[results,Tryz.results55,go_sem, *]) rfl ⟨rfl,?_⟩
 refine HF.o _ (Sat.right (P:=jk (fun k=>k=w.heap.size+1+1∨k=w.heap.size+1)) ?_)
 repeat' (first|(with_reducible first|exact HS.o|refine Sat.setJ ?_ ?_ _|refine Sat.drew ?_|refine Sat.drewN ?_ _)|exact .inl rfl|exact .inr rfl)
theorem do_casClock (ω w:World)(F:HP)(s:MSh)(b:Nat)(m:PMm)(A:MemA)(h:Sat ω w (memHA s b m A*F))(hf:m.fits)(o:POp)(ho:o.at_≤1000000)(hk:o.kind=7):
  Calls Tryz.prog 55 #[.pointer (some ⟨b,0,none⟩),opA o] w (Rets ω F (ansA (doM m o).1) (memHA s b (doM m o).2 A)):=by
 obtain⟨kind,at_,old,word,⟨wv,wh,wo⟩,⟨lv,lh,lo⟩⟩:=o;simp only at hk ho;subst hk;have h5:=h.perm memHA_top;have c5:w.cell? ⟨b,7,none⟩=some (.pointer (some ⟨A.bc,0,none⟩)):=h5.blk.cell 7;have hb:=h5.blk.lt;have hb1:b<w.heap.size+1:=by omega
 have hb2:b<w.heap.size+1+1:=by omega
 obtain⟨R,hR⟩:∃R,R=bk b 130 (memCells s A m.count)*(heapH A.bh m.words*(tabH A.bt m.locks s.wide*epH A.bs m.since))*F:=⟨_,rfl⟩;have h1:=((h.perm memHA_clk).junk (.cells #[.int .i64 7,.int .i64 at_,.int .u64 old,.int .u64 word,.int .u64 wv,.bool wh,.int .i64 wo,.int .u64 lv,.bool lh,.int .i64 lo] 95)).new #[.int .u64 0,.int .u64 0,.bool false,.int .i64 0,.bool false,.int .i64 0] 100 |>.new #[.int .u64 0,.int .u64 0,.bool false,.int .i64 0,.bool false,.int .i64 0] 100
 simp only[World.size_alloc] at h1;rw[←hR] at h1;have H1:=h_ ((h1.perm (by ac_rfl):Sat ω _ (clkH A.bc m.clock*(bk (w.heap.size+1+1) 100 #[.int .u64 0,.int .u64 0,.bool false,.int .i64 0,.bool false,.int .i64 0]*(bk (w.heap.size+1) 100 #[.int .u64 0,.int .u64 0,.bool false,.int .i64 0,.bool false,.int .i64 0]*R)))))
 have HR:Hid (doM m ⟨7,at_,old,word,⟨wv,wh,wo⟩,⟨lv,lh,lo⟩⟩=({ PAns.zero with done:=(casN m.clock old word).1,err:=(casN m.clock old word).2.1 },{ m with clock:=(casN m.clock old word).2.2 })):=h_ (by
  unfold doM casN;simp only;by_cases h1:word≤old
  ·simp only[if_pos h1]<;>rfl
  ·simp only[if_neg h1];by_cases h2:4611686018427387904≤word
   ·simp only[if_pos h2];rfl
   ·simp only[if_neg h2];by_cases h3:m.clock=old
    ·simp only[if_pos h3];rfl
    ·simp only[if_neg h3];rfl)
 rw[HR.o];have HL:=h_ (fun w1 F1 (h1:Sat ω w1 (clkH A.bc m.clock*F1))=>clk_casS ω w1 F1 A.bc m.clock old word h1)
 generalize (casN m.clock old word).1=d at *
 generalize (casN m.clock old word).2.1=y at *
 generalize (casN m.clock old word).2.2=r3 at *
 clear h h5 h1 HR;have HF:Hid (∀w1,Sat ω w1 (clkH A.bc r3*R)→Sat ω w1 (memHA s b { m with clock:=r3 } A*F)):=h_ (fun w1 h1=>by
  rw[hR] at h1;exact h1.perm (memHA_clk (m:={ m with clock:=r3 })).symm)
 clear hR;simp only[opA,ansA,PAns.zero,PLk.zero,lkA] at HL ⊢;go_enter Tryz.func55,Tryz.ntmps55;go_wp2;refine region_head 8 #[true,true,true,true,true,true,true,true,false,false,false,false,false,false,false,false] (by kernel_rfl) (by kernel_rfl) ?_
 simp only[List.take_succ_cons,List.take_zero];repeat still_step
 refine wpStill_nil ?_;refine oF 8 rfl fun K hK=>?_
 go_simp
 (go_at_call 87;refine(HL.o _ _ (by repeat' (first|(with_reducible first|exact H1.o|refine Sat.drewN ?_ _|refine Sat.drew ?_)))).mono ?_;rintro e w1 ⟨rfl,hs⟩;have k:=hs.right.blk;obtain⟨k0,k1,k2,k3,k4,k5⟩:=k.six;have kf:=k.frozen;have kl:=k.lt;have q:=hs.right.right.blk;obtain⟨q0,q1,q2,q3,q4,q5⟩:=q.six;have qf:=q.frozen;have ql:=q.lt;have HS:=h_ ((hs.perm (by ac_rfl):Sat ω w1 (bk (w.heap.size+1+1) 100 #[.int .u64 0,.int .u64 0,.bool false,.int .i64 0,.bool false,.int .i64 0]*(bk (w.heap.size+1) 100 #[.int .u64 0,.int .u64 0,.bool false,.int .i64 0,.bool false,.int .i64 0]*(clkH A.bc r3*R)))).jk2);clear k q hs)
 refine hK _ _ ?_;clear hK K;refine tF 9 ?_ rfl ?_ (tF 10 ?_ rfl ?_ (tF 11 ?_ rfl ?_ (tF 12 ?_ rfl ?_ ?_)));all_goals (try (
  intro w;go_simp<;>(try with_reducible rfl)))
 refine oF 13 rfl fun K hK=>?_
 go_simp;refine hK _ _ ?_;clear hK K;refine tF 14 ?_ rfl ?_ ?_;all_goals (try (
  intro w;go_simp<;>(try with_reducible rfl)))
 refine oF 15 rfl fun K hK=>?_
 go_simp;refine hK _ _ ?_;clear hK K;refine dF ?_;go_wp2;refine bodyPost_ret (v:=.agg #[.int .u64 0,.int .u64 0,.bool false,.int .i64 0,.bool d,.int .i64 y]) (by simp[results,Tryz.results55,go_sem, *]) rfl ⟨rfl,?_⟩
 refine HF.o _ (Sat.right (P:=jk (fun k=>k=w.heap.size+1+1∨k=w.heap.size+1)) ?_)
 repeat' (first|(with_reducible first|exact HS.o|refine Sat.setJ ?_ ?_ _|refine Sat.drew ?_|refine Sat.drewN ?_ _)|exact .inl rfl|exact .inr rfl)
theorem do_epoch (ω w:World)(F:HP)(s:MSh)(b:Nat)(m:PMm)(A:MemA)(h:Sat ω w (memHA s b m A*F))(hf:m.fits)(o:POp)(ho:o.at_≤1000000)(hk:o.kind=8):
  Calls Tryz.prog 55 #[.pointer (some ⟨b,0,none⟩),opA o] w (Rets ω F (ansA (doM m o).1) (memHA s b (doM m o).2 A)):=by
 obtain⟨kind,at_,old,word,⟨wv,wh,wo⟩,⟨lv,lh,lo⟩⟩:=o;simp only at hk ho;subst hk;have h5:=h.perm memHA_top;have c5:w.cell? ⟨b,8,none⟩=some (.pointer (some ⟨A.bs,0,none⟩)):=h5.blk.cell 8;have hb:=h5.blk.lt;have hb1:b<w.heap.size+1:=by omega
 have hb2:b<w.heap.size+1+1:=by omega
 obtain⟨R,hR⟩:∃R,R=bk b 130 (memCells s A m.count)*(heapH A.bh m.words*(tabH A.bt m.locks s.wide*clkH A.bc m.clock))*F:=⟨_,rfl⟩;have h1:=((h.perm memHA_ep).junk (.cells #[.int .i64 8,.int .i64 at_,.int .u64 old,.int .u64 word,.int .u64 wv,.bool wh,.int .i64 wo,.int .u64 lv,.bool lh,.int .i64 lo] 95)).new #[.int .u64 0,.int .u64 0,.bool false,.int .i64 0,.bool false,.int .i64 0] 100 |>.new #[.int .u64 0,.int .u64 0,.bool false,.int .i64 0,.bool false,.int .i64 0] 100
 simp only[World.size_alloc] at h1;rw[←hR] at h1;have H1:=h_ ((h1.perm (by ac_rfl):Sat ω _ (epH A.bs m.since*(bk (w.heap.size+1+1) 100 #[.int .u64 0,.int .u64 0,.bool false,.int .i64 0,.bool false,.int .i64 0]*(bk (w.heap.size+1) 100 #[.int .u64 0,.int .u64 0,.bool false,.int .i64 0,.bool false,.int .i64 0]*R)))))
 have HR:Hid (doM m ⟨8,at_,old,word,⟨wv,wh,wo⟩,⟨lv,lh,lo⟩⟩=({ PAns.zero with word:=if at_<m.since.length then m.since.getD at_ 0 else 0,err:=if at_<m.since.length then 0 else 2 },m)):=h_ (by
  unfold doM;simp only;by_cases h1:at_<m.since.length
  ·simp only[if_pos h1]<;>rfl
  ·simp only[if_neg h1]<;>rfl)
 rw[HR.o];have HL:=h_ (fun w1 F1 (h1:Sat ω w1 (epH A.bs m.since*F1))=>ep_loadS ω w1 F1 A.bs m.since h1 hf.since at_ ho)
 generalize (if at_<m.since.length then m.since.getD at_ 0 else 0)=x at *
 generalize (if at_<m.since.length then 0 else 2)=y at *
 clear h h5 h1 HR;have HF:Hid (∀w1,Sat ω w1 (epH A.bs m.since*R)→Sat ω w1 (memHA s b m A*F)):=h_ (fun w1 h1=>by
  rw[hR] at h1;exact h1.perm (memHA_ep (m:=m)).symm)
 clear hR;simp only[opA,ansA,PAns.zero,PLk.zero,lkA] at HL ⊢;go_enter Tryz.func55,Tryz.ntmps55;go_wp2;refine region_head 6 #[true,true,true,true,true,true,false,false,false,false,false,false,false,false] (by kernel_rfl) (by kernel_rfl) ?_
 simp only[List.take_succ_cons,List.take_zero];repeat still_step
 refine wpStill_nil ?_;refine oF 6 rfl fun K hK=>?_
 go_simp
 (go_at_call 88;refine(HL.o _ _ (by repeat' (first|(with_reducible first|exact H1.o|refine Sat.drewN ?_ _|refine Sat.drew ?_)))).mono ?_;rintro e w1 ⟨rfl,hs⟩;have k:=hs.right.blk;obtain⟨k0,k1,k2,k3,k4,k5⟩:=k.six;have kf:=k.frozen;have kl:=k.lt;have q:=hs.right.right.blk;obtain⟨q0,q1,q2,q3,q4,q5⟩:=q.six;have qf:=q.frozen;have ql:=q.lt;have HS:=h_ ((hs.perm (by ac_rfl):Sat ω w1 (bk (w.heap.size+1+1) 100 #[.int .u64 0,.int .u64 0,.bool false,.int .i64 0,.bool false,.int .i64 0]*(bk (w.heap.size+1) 100 #[.int .u64 0,.int .u64 0,.bool false,.int .i64 0,.bool false,.int .i64 0]*(epH A.bs m.since*R)))).jk2);clear k q hs)
 refine hK _ _ ?_;clear hK K;refine tF 7 ?_ rfl ?_ (tF 8 ?_ rfl ?_ (tF 9 ?_ rfl ?_ (tF 10 ?_ rfl ?_ ?_)));all_goals (try (
  intro w;go_simp<;>(try with_reducible rfl)))
 refine oF 11 rfl fun K hK=>?_
 go_simp;refine hK _ _ ?_;clear hK K;refine tF 12 ?_ rfl ?_ ?_;all_goals (try (
  intro w;go_simp<;>(try with_reducible rfl)))
 refine oF 13 rfl fun K hK=>?_
 go_simp;refine hK _ _ ?_;clear hK K;refine dF ?_;go_wp2;refine bodyPost_ret (v:=.agg #[.int .u64 x,.int .u64 0,.bool false,.int .i64 0,.bool false,.int .i64 y]) (by simp[results,Tryz.results55,go_sem, *]) rfl ⟨rfl,?_⟩
 refine HF.o _ (Sat.right (P:=jk (fun k=>k=w.heap.size+1+1∨k=w.heap.size+1)) ?_)
 repeat' (first|(with_reducible first|exact HS.o|refine Sat.setJ ?_ ?_ _|refine Sat.drew ?_|refine Sat.drewN ?_ _)|exact .inl rfl|exact .inr rfl)
theorem do_setEpoch (ω w:World)(F:HP)(s:MSh)(b:Nat)(m:PMm)(A:MemA)(h:Sat ω w (memHA s b m A*F))(hf:m.fits)(o:POp)(ho:o.at_≤1000000)(hk:o.kind=9):
  Calls Tryz.prog 55 #[.pointer (some ⟨b,0,none⟩),opA o] w (Rets ω F (ansA (doM m o).1) (memHA s b (doM m o).2 A)):=by
 obtain⟨kind,at_,old,word,⟨wv,wh,wo⟩,⟨lv,lh,lo⟩⟩:=o;simp only at hk ho;subst hk;have h5:=h.perm memHA_top;have c5:w.cell? ⟨b,8,none⟩=some (.pointer (some ⟨A.bs,0,none⟩)):=h5.blk.cell 8;have hb:=h5.blk.lt;have hb1:b<w.heap.size+1:=by omega
 have hb2:b<w.heap.size+1+1:=by omega
 obtain⟨R,hR⟩:∃R,R=bk b 130 (memCells s A m.count)*(heapH A.bh m.words*(tabH A.bt m.locks s.wide*clkH A.bc m.clock))*F:=⟨_,rfl⟩;have h1:=((h.perm memHA_ep).junk (.cells #[.int .i64 9,.int .i64 at_,.int .u64 old,.int .u64 word,.int .u64 wv,.bool wh,.int .i64 wo,.int .u64 lv,.bool lh,.int .i64 lo] 95)).new #[.int .u64 0,.int .u64 0,.bool false,.int .i64 0,.bool false,.int .i64 0] 100 |>.new #[.int .u64 0,.int .u64 0,.bool false,.int .i64 0,.bool false,.int .i64 0] 100
 simp only[World.size_alloc] at h1;rw[←hR] at h1;have H1:=h_ ((h1.perm (by ac_rfl):Sat ω _ (epH A.bs m.since*(bk (w.heap.size+1+1) 100 #[.int .u64 0,.int .u64 0,.bool false,.int .i64 0,.bool false,.int .i64 0]*(bk (w.heap.size+1) 100 #[.int .u64 0,.int .u64 0,.bool false,.int .i64 0,.bool false,.int .i64 0]*R)))))
 have HR:Hid (doM m ⟨9,at_,old,word,⟨wv,wh,wo⟩,⟨lv,lh,lo⟩⟩=({ PAns.zero with err:=if at_<m.since.length then 0 else 2 },{ m with since:=(if at_<m.since.length then m.since.set at_ word else m.since) })):=h_ (by
  unfold doM;simp only;by_cases h1:at_<m.since.length
  ·simp only[if_pos h1]<;>rfl
  ·simp only[if_neg h1]<;>rfl)
 rw[HR.o];have HL:=h_ (fun w1 F1 (h1:Sat ω w1 (epH A.bs m.since*F1))=>ep_store ω w1 F1 A.bs m.since h1 hf.since at_ word ho)
 generalize (if at_<m.since.length then m.since.set at_ word else m.since)=ws at *
 generalize (if at_<m.since.length then 0 else 2)=y at *
 clear h h5 h1 HR;have HF:Hid (∀w1,Sat ω w1 (epH A.bs ws*R)→Sat ω w1 (memHA s b { m with since:=ws } A*F)):=h_ (fun w1 h1=>by
  rw[hR] at h1;exact h1.perm (memHA_ep (m:={ m with since:=ws })).symm)
 clear hR;simp only[opA,ansA,PAns.zero,PLk.zero,lkA] at HL ⊢;go_enter Tryz.func55,Tryz.ntmps55;go_wp2;refine rT 8 ?_;simp only[sD,sE,sF,sG];repeat still_step
 refine wpStill_nil ?_;go_wp2_with ((go_at_call 89;refine(HL.o _ _ (by repeat' (first|(with_reducible first|exact H1.o|refine Sat.drewN ?_ _|refine Sat.drew ?_)))).mono ?_;rintro e w1 ⟨rfl,hs⟩;have k:=hs.right.blk;obtain⟨k0,k1,k2,k3,k4,k5⟩:=k.six;have kf:=k.frozen;have kl:=k.lt;have q:=hs.right.right.blk;obtain⟨q0,q1,q2,q3,q4,q5⟩:=q.six;have qf:=q.frozen;have ql:=q.lt;have HS:=h_ ((hs.perm (by ac_rfl):Sat ω w1 (bk (w.heap.size+1+1) 100 #[.int .u64 0,.int .u64 0,.bool false,.int .i64 0,.bool false,.int .i64 0]*(bk (w.heap.size+1) 100 #[.int .u64 0,.int .u64 0,.bool false,.int .i64 0,.bool false,.int .i64 0]*(epH A.bs ws*R)))).jk2);clear k q hs))
 refine bodyPost_ret (v:=.agg #[.int .u64 0,.int .u64 0,.bool false,.int .i64 0,.bool false,.int .i64 y]) (by simp[results,Tryz.results55,go_sem, *]) rfl ⟨rfl,?_⟩
 refine HF.o _ (Sat.right (P:=jk (fun k=>k=w.heap.size+1+1∨k=w.heap.size+1)) ?_)
 repeat' (first|(with_reducible first|exact HS.o|refine Sat.setJ ?_ ?_ _|refine Sat.drew ?_|refine Sat.drewN ?_ _)|exact .inl rfl|exact .inr rfl)
end
end Go.Proofs.YtfodmgaliclhfaaGreatDoor
