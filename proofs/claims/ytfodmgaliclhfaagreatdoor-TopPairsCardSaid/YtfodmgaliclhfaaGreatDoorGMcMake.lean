/- Lemmas for TopPairs; no conditions. -/
import Derived.Test.YtfodmgaliclhfaaGreatDoorGMcPut
namespace Go.Proofs.YtfodmgaliclhfaaGreatDoor
set_option linter.unusedVariables false
set_option linter.unusedSimpArgs false
set_option maxRecDepth 100000
set_option maxHeartbeats 16000000
open Go.RowKit
theorem mc_pick [Inhabited PowO](ω w:World)(F:HP)(b:Nat)(M:PMc)(hM:McFine M)(hK:M.picks≤10000)(i d:Nat)(hi:i<M.thr.length)(hd:d<256)(h:Sat ω w (mcH b M*(powH*F))):
  Calls Tryz.prog 13 #[.pointer (some ⟨b,0,none⟩),.int .i64 i,.int .u8 d] w (Rets ω (powH*F) (.int .i64 0) (mcH b (M.pick i d))):=by
 obtain⟨D,h⟩:=mcH_of h;obtain⟨hl,h1⟩:=mcX_open h;obtain⟨n,hn⟩:∃n,M.thr.length=n:=⟨_,rfl⟩;have hn4:n≤4:=by
  obtain⟨s0,e⟩:=hM.set;have h9:=(held_fine s0).2;have h8:=hM.len;rw[e] at h8;omega
 obtain⟨t,ht⟩:∃t,M.thr[i]?=some t:=⟨_,List.getElem?_eq_getElem hi⟩;obtain⟨hth,hme⟩:=hM.thr i t ht;obtain⟨tb,R,hb,hR,hset⟩:=thAll_at M.s D.bs M.thr hl i t ht;obtain⟨g,hA,hg,hc⟩:=mcRow_at (h1.perm (by ac_rfl:_=(bk b 97 (mcC M D)*memH (shOf M.s) D.mb M.mem)*(mcRow M D*(thAll M.s D.bs M.thr*(powH*F))))) hb
 have hk:=h1.blk;have kf:=hk.frozen;have kl:=hk.lt;have k9:w.cell? ⟨b,9,none⟩=some (.slice (some ⟨g,0,none⟩) n D.tc):=by
  have:=hk.cell 9
  rw[this];show some (Value.slice D.tA M.thr.length D.tc)=_
  rw[hA,hn]
 obtain⟨pk,hpk⟩:∃pk,M.picks=pk:=⟨_,rfl⟩;have hKp:pk≤10000:=by omega
 have k10:w.cell? ⟨b,10,none⟩=some (.int .i64 pk):=by rw[←hpk];exact hk.cell 10
 rw[hn] at hi;obtain⟨M1,hM1⟩:∃M1:PMc,M1={ M with picks:=M.picks+1 }:=⟨_,rfl⟩
 have HS1:Hid (Sat ω (w.setCell ⟨b,10,none⟩ (.int .i64 ((pk:Int)+1))) (bk b 97 (mcC M1 D)*(memH (shOf M.s) D.mb M.mem*(mcRow M D*(thAll M.s D.bs M.thr*(powH*F)))))):=h_ (by
  have e:((pk:Int)+1)=((M.picks+1:Nat):Int):=by rw[hpk];simp
  rw[e,hM1];exact h1.put 10 _ rfl)
 have kb1:=HS1.o.blk;have HNX:Hid (Calls Tryz.prog 37 #[.pointer (some ⟨tb,0,none⟩)] (w.setCell ⟨b,10,none⟩ (.int .i64 ((pk:Int)+1))) (AtNext (w.setCell ⟨b,10,none⟩ (.int .i64 ((pk:Int)+1))) t.next)):=h_ (by
  have h2:Sat ω (w.setCell ⟨b,10,none⟩ (.int .i64 ((pk:Int)+1))) (thH tb M.s t*(R*(bk b 97 (mcC M1 D)*(memH (shOf M.s) D.mb M.mem*(mcRow M D*(powH*F)))))):=HS1.o.perm (by rw[hR];ac_rfl)
  exact th_next ω _ _ tb M.s t h2 hth.st fun e=>by obtain⟨x,hx⟩:=hth.some_ e;exact⟨x,hx,(hth.now x hx).well⟩)
 have kc1:(w.setCell ⟨b,10,none⟩ (.int .i64 ((pk:Int)+1))).cell? ⟨g,i,none⟩=some (pV tb):=by
  obtain⟨g',hA',hg',hc'⟩:=mcRow_at (HS1.o.perm (by ac_rfl:_=(bk b 97 (mcC M1 D)*memH (shOf M.s) D.mb M.mem)*(mcRow M D*(thAll M.s D.bs M.thr*(powH*F))))) hb
  rw[hA] at hA';injection hA' with e
  injection e with e
  subst e;exact hc'
 obtain⟨o,ho⟩:∃o,t.next.1=o:=⟨_,rfl⟩;obtain⟨ok,hok⟩:∃ok,t.next.2=ok:=⟨_,rfl⟩;have hnx:t.next=(o,ok):=by rw[←ho,←hok]
 have hopf:ok=true→OpFine o:=fun e=>by
  have h9:=hth.next (by rw[hok];exact e)
  rw[ho] at h9;exact h9
 have hE:=PMc.pick;have HE:Hid (M.pick i d=if ok=false then { M with picks:=M.picks+1,last:=o,did:=ok,thr:=M.thr.set i (t.pauseOne M.s) } else
   (if o.kind≠5 then { M with picks:=M.picks+1,last:=o,did:=ok,mem:=(doC M.mem o).2,thr:=M.thr.set i (t.tell M.s (doC M.mem o).1 d (M.picks+1)) }
    else { M with picks:=M.picks+1,last:=o,did:=ok,mem:=(doC M.mem o).2,thr:=wakeTo M.s i o.at_ o.lock.ver n (M.thr.set i (t.tell M.s (doC M.mem o).1 d (M.picks+1))) })):=h_ (by
  have e9:(M.thr.set i (t.tell M.s (doC M.mem o).1 d (M.picks+1))).length=n:=by rw[List.length_set];exact hn
  have e8:=wakeTo_all M.s i o.at_ o.lock.ver (M.thr.set i (t.tell M.s (doC M.mem o).1 d (M.picks+1)));rw[e9] at e8;rw[e8];unfold PMc.pick;rw[ht];simp only[hnx])
 clear hE;rw[hnx] at HNX;obtain⟨kind,at_,old,word,⟨wv,wh,wo⟩,⟨lv,lh,lo⟩⟩:=o;unfold AtNext opA at HNX;simp only at HNX;have HLS:Hid (∀w1 ok2,ok2=ok→Sat ω w1 (bk b 97 (mcC M1 D)*(memH (shOf M.s) D.mb M.mem*(mcRow M D*(thAll M.s D.bs M.thr*(powH*F)))))→Sat ω (((((((((((w1.setCell ⟨b,11,none⟩ (.int .i64 kind)).setCell ⟨b,12,none⟩ (.int .i64 at_)).setCell ⟨b,13,none⟩ (.int .u64 old)).setCell ⟨b,14,none⟩ (.int .u64 word)).setCell ⟨b,15,none⟩ (.int .u64 wv)).setCell ⟨b,16,none⟩ (.bool wh)).setCell ⟨b,17,none⟩ (.int .i64 wo)).setCell ⟨b,18,none⟩ (.int .u64 lv)).setCell ⟨b,19,none⟩ (.bool lh)).setCell ⟨b,20,none⟩ (.int .i64 lo)).setCell ⟨b,21,none⟩ (.bool ok2)) (bk b 97 (mcC { M1 with last:=⟨kind,at_,old,word,⟨wv,wh,wo⟩,⟨lv,lh,lo⟩⟩,did:=ok } D)*(memH (shOf M.s) D.mb M.mem*(mcRow M D*(thAll M.s D.bs M.thr*(powH*F)))))):=h_ (fun w1 ok2 e h9=>by subst e;exact mc_putLast kind at_ old word wv wo lv lo wh lh ok2 h9)
 have HBL:Hid (∀w1,Sat ω w1 (bk b 97 (mcC M1 D)*(memH (shOf M.s) D.mb M.mem*(mcRow M D*(thAll M.s D.bs M.thr*(powH*F)))))→Blk w1 b 97 (mcC M1 D)):=h_ (fun w1 h9=>h9.blk)
 have HS:=h_ hM.kept;have HTH:=h_ hth;obtain⟨y0,hy0⟩:∃y0,M.pick i d=y0:=⟨_,rfl⟩;rw[hy0] at HE ⊢;have dge:¬(n:Int)≤(i:Int):=by omega
 have dlt:¬(i:Int)<0:=by omega
 have dil:(i:Int)<(n:Int):=by omega
 cases ok
 ·have HPO:Hid (∀w1,Sat ω w1 (bk b 97 (mcC { M1 with last:=⟨kind,at_,old,word,⟨wv,wh,wo⟩,⟨lv,lh,lo⟩⟩,did:=false } D)*(memH (shOf M.s) D.mb M.mem*(mcRow M D*(thAll M.s D.bs M.thr*(powH*F)))))→Calls Tryz.prog 38 #[.pointer (some ⟨tb,0,none⟩)] w1 (Rets ω (powH*F) (.tuple #[]) (mcH b y0))):=h_ (fun w1 h9=>by
   have h10:Sat ω w1 (thH tb M.s t*(R*(bk b 97 (mcC { M1 with last:=⟨kind,at_,old,word,⟨wv,wh,wo⟩,⟨lv,lh,lo⟩⟩,did:=false } D)*(memH (shOf M.s) D.mb M.mem*(mcRow M D*(powH*F)))))):=h9.perm (by rw[hR];ac_rfl)
   refine(th_pauseOne ω w1 _ tb M.s t h10 HS.o HTH.o.toThBase.fit HTH.o.pz).mono ?_;rintro e w2 ⟨rfl,h11⟩;refine⟨rfl,?_⟩;rw[HE.o,if_pos rfl];refine mcX_close (D:=D) (by simpa using hl) ?_
   have e1:mcC { M with picks:=M.picks+1,last:=⟨kind,at_,old,word,⟨wv,wh,wo⟩,⟨lv,lh,lo⟩⟩,did:=false,thr:=M.thr.set i (t.pauseOne M.s) } D=mcC { M1 with last:=⟨kind,at_,old,word,⟨wv,wh,wo⟩,⟨lv,lh,lo⟩⟩,did:=false } D:=by
    rw[hM1];unfold mcC;simp only[List.length_set]
   have e2:mcRow { M with picks:=M.picks+1,last:=⟨kind,at_,old,word,⟨wv,wh,wo⟩,⟨lv,lh,lo⟩⟩,did:=false,thr:=M.thr.set i (t.pauseOne M.s) } D=mcRow M D:=by
    unfold mcRow;simp only[List.length_set]
   rw[e1,e2];refine h11.perm ?_;simp only;rw[hset];ac_rfl)
  clear h h1 hl hth hme hb hR hset hA hk hn hpk hM1 hM ht hnx ho hok hopf hy0 kb1 HTH HS HE;go_enter Tryz.func13,Tryz.ntmps13;go_wp2_with (first
   |(go_at_call 37;refine(HNX.o).mono ?_;rintro e w1 ⟨rfl,ho⟩;have HB:=h_ (HS1.o.nob ho);have kM:=HBL.o _ HB.o;have qf:=kM.frozen;have ql:=kM.lt;obtain⟨u11_,m11⟩:∃u,w1.cell? ⟨b,11,none⟩=some u:=⟨_,kM.cell 11⟩;obtain⟨u12_,m12⟩:∃u,w1.cell? ⟨b,12,none⟩=some u:=⟨_,kM.cell 12⟩;obtain⟨u13_,m13⟩:∃u,w1.cell? ⟨b,13,none⟩=some u:=⟨_,kM.cell 13⟩;obtain⟨u14_,m14⟩:∃u,w1.cell? ⟨b,14,none⟩=some u:=⟨_,kM.cell 14⟩;obtain⟨u15_,m15⟩:∃u,w1.cell? ⟨b,15,none⟩=some u:=⟨_,kM.cell 15⟩;obtain⟨u16_,m16⟩:∃u,w1.cell? ⟨b,16,none⟩=some u:=⟨_,kM.cell 16⟩;obtain⟨u17_,m17⟩:∃u,w1.cell? ⟨b,17,none⟩=some u:=⟨_,kM.cell 17⟩;obtain⟨u18_,m18⟩:∃u,w1.cell? ⟨b,18,none⟩=some u:=⟨_,kM.cell 18⟩;obtain⟨u19_,m19⟩:∃u,w1.cell? ⟨b,19,none⟩=some u:=⟨_,kM.cell 19⟩;obtain⟨u20_,m20⟩:∃u,w1.cell? ⟨b,20,none⟩=some u:=⟨_,kM.cell 20⟩;obtain⟨u21_,m21⟩:∃u,w1.cell? ⟨b,21,none⟩=some u:=⟨_,kM.cell 21⟩;clear kM ho)
   |(go_at_call 38;refine(HPO.o _ (HLS.o _ _ rfl HB.o)).mono ?_;rintro e w2 ⟨rfl,hs⟩;have HZ:=h_ hs;clear hs))
  go_ret;exact⟨rfl,HZ.o⟩
 ·obtain⟨M2,hM2⟩:∃M2:PMc,M2={ M1 with last:=⟨kind,at_,old,word,⟨wv,wh,wo⟩,⟨lv,lh,lo⟩⟩,did:=true }:=⟨_,rfl⟩
  rw[←hM2] at HLS;have hof:=hopf rfl;obtain⟨r,hr⟩:∃r,doC M.mem ⟨kind,at_,old,word,⟨wv,wh,wo⟩,⟨lv,lh,lo⟩⟩=r:=⟨_,rfl⟩;rw[hr] at HE;obtain⟨t2,ht2⟩:∃t2,t.tell M.s r.1 d (M.picks+1)=t2:=⟨_,rfl⟩;rw[ht2] at HE;have hrd:r.1=(doM M.mem ⟨kind,at_,old,word,⟨wv,wh,wo⟩,⟨lv,lh,lo⟩⟩).1:=by rw[←hr];rfl
  have HDO:Hid (∀w1,Sat ω w1 (bk b 97 (mcC M2 D)*(memH (shOf M.s) D.mb M.mem*(mcRow M D*(thAll M.s D.bs M.thr*(powH*F)))))→Calls Tryz.prog 35 #[.pointer (some ⟨D.mb,0,none⟩),.agg #[.int .i64 kind,.int .i64 at_,.int .u64 old,.int .u64 word,.int .u64 wv,.bool wh,.int .i64 wo,.int .u64 lv,.bool lh,.int .i64 lo]] w1 fun e w'=>e=.returned (ansA r.1)∧Sat ω w' (bk b 97 (mcC M2 D)*(memH (shOf M.s) D.mb r.2*(mcRow M D*(thAll M.s D.bs M.thr*(powH*F)))))∧Blk w' b 97 (mcC M2 D)):=h_ (fun w1 h9=>by
   refine(mem_do ω w1 _ (shOf M.s) D.mb M.mem h9.swap hM.mem.fits ⟨kind,at_,old,word,⟨wv,wh,wo⟩,⟨lv,lh,lo⟩⟩ hof.at_ ⟨hof.k1,hof.k2⟩).mono ?_;rintro e w2 ⟨rfl,h10⟩;rw[hr] at h10 ⊢;exact⟨rfl,h10.swap,h10.swap.blk⟩)
  have hstf:StFine M.s∧M.s.threads≤1000:=by
   obtain⟨s0,e⟩:=hM.set;have h9:=held_fine s0;rw[e];exact⟨h9.1,by have:=h9.2;omega⟩
  have hn2:t.next.2=true:=by rw[hnx]
  have hn1:t.next.1=⟨kind,at_,old,word,⟨wv,wh,wo⟩,⟨lv,lh,lo⟩⟩:=by rw[hnx]
  have HT2F:Hid (ThFine (M.picks+1) t2):=h_ (by
   have h9:=hth.tell hstf.1 hstf.2 hM.mem hn2 d (M.picks+1) (Nat.le_refl _);rw[hn1,←hrd,ht2] at h9;exact h9)
  have HTE:Hid (∀w1,Sat ω w1 (bk b 97 (mcC M2 D)*(memH (shOf M.s) D.mb r.2*(mcRow M D*(thAll M.s D.bs M.thr*(powH*F)))))→Calls Tryz.prog 39 #[.pointer (some ⟨tb,0,none⟩),ansA r.1,.int .u8 d,.int .i64 ((M.picks+1:Nat):Int)] w1 fun e w'=>e=.returned (.tuple #[])∧Sat ω w' (bk b 97 (mcC M2 D)*(memH (shOf M.s) D.mb r.2*(mcRow M D*(thAll M.s D.bs (M.thr.set i t2)*(powH*F)))))∧Blk w' b 97 (mcC M2 D)):=h_ (fun w1 h9=>by
   have h10:Sat ω w1 (thH tb M.s t*(powH*(R*(bk b 97 (mcC M2 D)*(memH (shOf M.s) D.mb r.2*(mcRow M D*F)))))):=h9.perm (by rw[hR];ac_rfl)
   refine(th_tell ω w1 _ tb M.s t h10 HS.o M.picks HTH.o (by omega) r.1 d (M.picks+1) hd ?_).mono ?_
   ·intro e1 x hx;have h11:=HTH.o.now x hx;have hxn:t.next=x.next:=by unfold PTh.next;rw[e1,hx];rfl
    have hx2:x.next.2=true:=by rw[←hxn];exact hn2
    have hx1:x.next.1=⟨kind,at_,old,word,⟨wv,wh,wo⟩,⟨lv,lh,lo⟩⟩:=by rw[←hxn];exact hn1
    refine⟨h11,?_,?_⟩
    ·have h12:=h11.tell hstf.1 hM.mem hx2;rw[hx1,←hrd] at h12;exact h12
    ·intro h13 f hf;have h12:=h11.tell_word hM.mem hx2 h13 f hf;rw[hx1,←hrd] at h12;exact h12
   ·rintro e w2 ⟨rfl,h11⟩;rw[ht2] at h11;have h12:Sat ω w2 (bk b 97 (mcC M2 D)*(memH (shOf M.s) D.mb r.2*(mcRow M D*(thAll M.s D.bs (M.thr.set i t2)*(powH*F))))):=h11.perm (by rw[hset];ac_rfl)
    exact⟨rfl,h12,h12.blk⟩)
  have hM2c:mcC M2 D=#[.int .i64 M.s.words,.int .i64 M.s.stripes,.int .i64 M.s.wide,.int .i64 M.s.threads,.int .u64 M.s.start,.int .i64 M.s.spins,.int .i64 M.s.writes,.int .i64 M.s.fuel,pV D.mb,.slice (some ⟨g,0,none⟩) n D.tc,.int .i64 ((M.picks+1:Nat):Int),.int .i64 kind,.int .i64 at_,.int .u64 old,.int .u64 word,.int .u64 wv,.bool wh,.int .i64 wo,.int .u64 lv,.bool lh,.int .i64 lo,.bool true]:=by rw[hM2,hM1,←hA,←hn];rfl
  have HCL:Hid (∀w1 thr,thr.length=n→M.pick i d={ M with picks:=M.picks+1,last:=⟨kind,at_,old,word,⟨wv,wh,wo⟩,⟨lv,lh,lo⟩⟩,did:=true,mem:=r.2,thr:=thr }→Sat ω w1 (bk b 97 (mcC M2 D)*(memH (shOf M.s) D.mb r.2*(mcRow M D*(thAll M.s D.bs thr*(powH*F)))))→Sat ω w1 (mcH b y0*(powH*F))):=h_ (fun w1 thr hlen e h9=>by
   rw[←hy0,e];refine mcX_close (D:=D) (by simp only;omega) ?_
   have e1:mcC { M with picks:=M.picks+1,last:=⟨kind,at_,old,word,⟨wv,wh,wo⟩,⟨lv,lh,lo⟩⟩,did:=true,mem:=r.2,thr:=thr } D=mcC M2 D:=by
    rw[hM2,hM1];unfold mcC;simp only[hlen,hn]
   have e2:mcRow { M with picks:=M.picks+1,last:=⟨kind,at_,old,word,⟨wv,wh,wo⟩,⟨lv,lh,lo⟩⟩,did:=true,mem:=r.2,thr:=thr } D=mcRow M D:=by
    unfold mcRow;simp only[hlen,hn]
   rw[e1,e2];exact h9)
  have HWK:Hid (∀k,k<n→∃tbk,(∀w1,Sat ω w1 (bk b 97 (mcC M2 D)*(memH (shOf M.s) D.mb r.2*(mcRow M D*(thAll M.s D.bs (wakeTo M.s i at_ lv (k) (M.thr.set i t2))*(powH*F)))))→g<w1.heap.size∧w1.cell? ⟨g,k,none⟩=some (pV tbk))∧(k≠i→∀w1,Sat ω w1 (bk b 97 (mcC M2 D)*(memH (shOf M.s) D.mb r.2*(mcRow M D*(thAll M.s D.bs (wakeTo M.s i at_ lv (k) (M.thr.set i t2))*(powH*F)))))→Calls Tryz.prog 40 #[.pointer (some ⟨tbk,0,none⟩),.int .i64 at_,.int .u64 lv] w1 fun e w'=>e=.returned (.tuple #[])∧Sat ω w' (bk b 97 (mcC M2 D)*(memH (shOf M.s) D.mb r.2*(mcRow M D*(thAll M.s D.bs (wakeTo M.s i at_ lv (k+1) (M.thr.set i t2))*(powH*F)))))∧Blk w' b 97 (mcC M2 D))∧(k=i→∀w1,Sat ω w1 (bk b 97 (mcC M2 D)*(memH (shOf M.s) D.mb r.2*(mcRow M D*(thAll M.s D.bs (wakeTo M.s i at_ lv (k) (M.thr.set i t2))*(powH*F)))))→Sat ω w1 (bk b 97 (mcC M2 D)*(memH (shOf M.s) D.mb r.2*(mcRow M D*(thAll M.s D.bs (wakeTo M.s i at_ lv (k+1) (M.thr.set i t2))*(powH*F))))))):=h_ (fun k hk=>by
   obtain⟨o,ho⟩:∃o,(M.thr.set i t2)[k]?=some o:=⟨_,List.getElem?_eq_getElem (by rw[List.length_set];omega)⟩
   have hw1:=wakeTo_at M.s i at_ lv k (M.thr.set i t2);rw[ho] at hw1;have hlk:D.bs.length=(wakeTo M.s i at_ lv k (M.thr.set i t2)).length:=by rw[wakeTo_len,List.length_set];exact hl
   obtain⟨tbk,Rk,hbk,hRk,hsetk⟩:=thAll_at M.s D.bs _ hlk k o hw1;refine⟨tbk,fun w1 h9=>?_,fun hne w1 h9=>?_,fun he w1 h9=>?_⟩
   ·obtain⟨g',hA',hg',hc'⟩:=mcRow_at (h9.perm (by ac_rfl:_=(bk b 97 (mcC M2 D)*memH (shOf M.s) D.mb r.2)*(mcRow M D*(thAll M.s D.bs (wakeTo M.s i at_ lv k (M.thr.set i t2))*(powH*F))))) hbk
    rw[hA] at hA';injection hA' with e
    injection e with e
    subst e;exact⟨hg',hc'⟩
   ·have hof9:ThFine M.picks o:=by
     rw[List.getElem?_set_ne (Ne.symm hne)] at ho;exact(hM.thr k o ho).1
    have h10:Sat ω w1 (thH tbk M.s o*(Rk*(bk b 97 (mcC M2 D)*(memH (shOf M.s) D.mb r.2*(mcRow M D*(powH*F)))))):=h9.perm (by rw[hRk];ac_rfl)
    refine(th_wake ω w1 _ tbk M.s o h10 HS.o hof9.toThBase.fit (fun x hx=>(hof9.now x hx).reads) at_ lv).mono ?_
    rintro e w2 ⟨rfl,h11⟩;have hsu:=wakeTo_succ M.s i at_ lv k (M.thr.set i t2) o ho;rw[if_neg hne] at hsu;have h12:Sat ω w2 (bk b 97 (mcC M2 D)*(memH (shOf M.s) D.mb r.2*(mcRow M D*(thAll M.s D.bs (wakeTo M.s i at_ lv (k+1) (M.thr.set i t2))*(powH*F))))):=h11.perm (by rw[hsu,hsetk];ac_rfl)
    exact⟨rfl,h12,h12.blk⟩
   ·have hsu:=wakeTo_succ M.s i at_ lv k (M.thr.set i t2) o ho;rw[if_pos he] at hsu;refine h9.perm ?_;rw[hsu,hsetk,hRk])
  have HKB:Hid (∀k w1,Sat ω w1 (bk b 97 (mcC M2 D)*(memH (shOf M.s) D.mb r.2*(mcRow M D*(thAll M.s D.bs (wakeTo M.s i at_ lv (k) (M.thr.set i t2))*(powH*F)))))→Blk w1 b 97 (mcC M2 D)):=h_ (fun k w1 h9=>h9.blk)
  have HK0:Hid (∀w1,Sat ω w1 (bk b 97 (mcC M2 D)*(memH (shOf M.s) D.mb r.2*(mcRow M D*(thAll M.s D.bs (M.thr.set i t2)*(powH*F)))))→Sat ω w1 (bk b 97 (mcC M2 D)*(memH (shOf M.s) D.mb r.2*(mcRow M D*(thAll M.s D.bs (wakeTo M.s i at_ lv (0) (M.thr.set i t2))*(powH*F)))))):=h_ (fun w1 h9=>by rw[wakeTo_zero];exact h9)
  have HF1:Hid (kind≠5→∀w1,Sat ω w1 (bk b 97 (mcC M2 D)*(memH (shOf M.s) D.mb r.2*(mcRow M D*(thAll M.s D.bs (M.thr.set i t2)*(powH*F)))))→Sat ω w1 (mcH b y0*(powH*F))):=h_ (fun hk9 w1 h9=>HCL.o w1 _ (by rw[List.length_set];exact hn) (by rw[hy0,HE.o,if_neg (by simp),if_pos hk9]) h9)
  have HF2:Hid (kind=5→∀w1,Sat ω w1 (bk b 97 (mcC M2 D)*(memH (shOf M.s) D.mb r.2*(mcRow M D*(thAll M.s D.bs (wakeTo M.s i at_ lv (n) (M.thr.set i t2))*(powH*F)))))→Sat ω w1 (mcH b y0*(powH*F))):=h_ (fun hk9 w1 h9=>HCL.o w1 _ (by rw[wakeTo_len,List.length_set];exact hn) (by rw[hy0,HE.o,if_neg (by simp),if_neg (by simp[hk9])]) h9)
  have HMC:=h_ hM2c;have HLB:Hid (∀w1,Sat ω w1 (bk b 97 (mcC M2 D)*(memH (shOf M.s) D.mb M.mem*(mcRow M D*(thAll M.s D.bs M.thr*(powH*F)))))→Blk w1 b 97 (mcC M2 D)):=h_ (fun w1 h9=>h9.blk)
  obtain⟨SK,hSK⟩:∃SK:Nat→HP,SK=fun k=>bk b 97 (mcC M2 D)*(memH (shOf M.s) D.mb r.2*(mcRow M D*(thAll M.s D.bs (wakeTo M.s i at_ lv (k) (M.thr.set i t2))*(powH*F)))):=⟨_,rfl⟩
  have HWK2:Hid (∀k,k<n→∃tbk,(∀w1,Sat ω w1 (SK k)→g<w1.heap.size∧w1.cell? ⟨g,k,none⟩=some (pV tbk))∧(k≠i→∀w1,Sat ω w1 (SK k)→Calls Tryz.prog 40 #[.pointer (some ⟨tbk,0,none⟩),.int .i64 at_,.int .u64 lv] w1 fun e w'=>e=.returned (.tuple #[])∧Sat ω w' (SK (k+1))∧Blk w' b 97 (mcC M2 D))∧(k=i→∀w1,Sat ω w1 (SK k)→Sat ω w1 (SK (k+1)))):=h_ (by rw[hSK];exact HWK.o)
  have HKB2:Hid (∀k w1,Sat ω w1 (SK k)→Blk w1 b 97 (mcC M2 D)):=h_ (by rw[hSK];exact HKB.o)
  have HK02:Hid (∀w1,Sat ω w1 (bk b 97 (mcC M2 D)*(memH (shOf M.s) D.mb r.2*(mcRow M D*(thAll M.s D.bs (M.thr.set i t2)*(powH*F)))))→Sat ω w1 (SK 0)):=h_ (by rw[hSK];exact HK0.o)
  have HF22:Hid (kind=5→∀w1,Sat ω w1 (SK n)→Sat ω w1 (mcH b y0*(powH*F))):=h_ (by rw[hSK];exact HF2.o)
  obtain⟨CS,hCS⟩:∃CS,mcC M2 D=CS:=⟨_,rfl⟩;rw[hCS] at HWK2 HKB2 HK02 HF1 HMC HLB HDO HTE HLS;rw[←hpk] at HS1;rw[hpk] at HS1 HTE HMC;obtain⟨an,han⟩:∃an,ansA r.1=an:=⟨_,rfl⟩;rw[han] at HDO HTE;clear h h1 hl hth hme hb hR hset hA hk hn hpk hM1 hM ht hnx ho hok hopf hy0 kb1 HTH HS HE hof hr ht2 hrd hstf hn2 hn1 HT2F hM2c HCL HWK HKB HK0 HF2 hSK hM2 hCS han;go_enter Tryz.func13,Tryz.ntmps13;go_wp2_with (go_at_call 37;refine(HNX.o).mono ?_;rintro e w1 ⟨rfl,ho⟩;have HB:=h_ (HS1.o.nob ho);have kM:=HBL.o _ HB.o;have qf:=kM.frozen;have ql:=kM.lt;obtain⟨u11_,m11⟩:∃u,w1.cell? ⟨b,11,none⟩=some u:=⟨_,kM.cell 11⟩;obtain⟨u12_,m12⟩:∃u,w1.cell? ⟨b,12,none⟩=some u:=⟨_,kM.cell 12⟩;obtain⟨u13_,m13⟩:∃u,w1.cell? ⟨b,13,none⟩=some u:=⟨_,kM.cell 13⟩;obtain⟨u14_,m14⟩:∃u,w1.cell? ⟨b,14,none⟩=some u:=⟨_,kM.cell 14⟩;obtain⟨u15_,m15⟩:∃u,w1.cell? ⟨b,15,none⟩=some u:=⟨_,kM.cell 15⟩;obtain⟨u16_,m16⟩:∃u,w1.cell? ⟨b,16,none⟩=some u:=⟨_,kM.cell 16⟩;obtain⟨u17_,m17⟩:∃u,w1.cell? ⟨b,17,none⟩=some u:=⟨_,kM.cell 17⟩;obtain⟨u18_,m18⟩:∃u,w1.cell? ⟨b,18,none⟩=some u:=⟨_,kM.cell 18⟩;obtain⟨u19_,m19⟩:∃u,w1.cell? ⟨b,19,none⟩=some u:=⟨_,kM.cell 19⟩;obtain⟨u20_,m20⟩:∃u,w1.cell? ⟨b,20,none⟩=some u:=⟨_,kM.cell 20⟩;obtain⟨u21_,m21⟩:∃u,w1.cell? ⟨b,21,none⟩=some u:=⟨_,kM.cell 21⟩;clear kM ho);have HD0:=h_ (HLS.o _ true rfl HB.o);generalize (((((((((((w1.setCell ⟨b,11,none⟩ (.int .i64 kind)).setCell ⟨b,12,none⟩ (.int .i64 at_)).setCell ⟨b,13,none⟩ (.int .u64 old)).setCell ⟨b,14,none⟩ (.int .u64 word)).setCell ⟨b,15,none⟩ (.int .u64 wv)).setCell ⟨b,16,none⟩ (.bool wh)).setCell ⟨b,17,none⟩ (.int .i64 wo)).setCell ⟨b,18,none⟩ (.int .u64 lv)).setCell ⟨b,19,none⟩ (.bool lh)).setCell ⟨b,20,none⟩ (.int .i64 lo)).setCell ⟨b,21,none⟩ (.bool true))=wC at *
  have HD:=h_ (HD0.o.drewN 1);have HS0:MchS b CS wC.drew:=HLB.o _ HD.o;clear HLS HB HS1 HBL HNX qf ql;refine wp_region_noPanic ?_;refine gH (MchS b CS) HS0 fun hh0=>?_
  refine tH 0 ?_ rfl ?_ (tH 1 ?_ rfl ?_ (tH 2 ?_ rfl ?_ (tH 3 ?_ rfl ?_ (tH 4 ?_ rfl ?_ (tH 5 ?_ rfl ?_ (tH 6 ?_ rfl ?_ (tH 7 ?_ rfl ?_ (tH 8 ?_ rfl ?_ (tH 10 ?_ rfl ?_ (tH 11 ?_ rfl ?_ (tH 12 ?_ rfl ?_ (tH 13 ?_ rfl ?_ (tH 14 ?_ rfl ?_ ?_)))))))))))));all_goals (try (
   intro w hSw;have jl:=hSw.lt;have jf:=hSw.frozen;have j8:w.cell? ⟨b,8,none⟩=some (.pointer (some ⟨D.mb,0,none⟩)):=(by have e:=((hSw:Blk _ _ _ _)).cell 8;rw[HMC.o] at e;exact e);have j10:w.cell? ⟨b,10,none⟩=some (.int .i64 ((pk+1:Nat):Int)):=(by have e:=((hSw:Blk _ _ _ _)).cell 10;rw[HMC.o] at e;exact e);have j11:w.cell? ⟨b,11,none⟩=some (.int .i64 kind):=(by have e:=((hSw:Blk _ _ _ _)).cell 11;rw[HMC.o] at e;exact e);have j12:w.cell? ⟨b,12,none⟩=some (.int .i64 at_):=(by have e:=((hSw:Blk _ _ _ _)).cell 12;rw[HMC.o] at e;exact e);have j13:w.cell? ⟨b,13,none⟩=some (.int .u64 old):=(by have e:=((hSw:Blk _ _ _ _)).cell 13;rw[HMC.o] at e;exact e);have j14:w.cell? ⟨b,14,none⟩=some (.int .u64 word):=(by have e:=((hSw:Blk _ _ _ _)).cell 14;rw[HMC.o] at e;exact e);have j15:w.cell? ⟨b,15,none⟩=some (.int .u64 wv):=(by have e:=((hSw:Blk _ _ _ _)).cell 15;rw[HMC.o] at e;exact e);have j16:w.cell? ⟨b,16,none⟩=some (.bool wh):=(by have e:=((hSw:Blk _ _ _ _)).cell 16;rw[HMC.o] at e;exact e);have j17:w.cell? ⟨b,17,none⟩=some (.int .i64 wo):=(by have e:=((hSw:Blk _ _ _ _)).cell 17;rw[HMC.o] at e;exact e);have j18:w.cell? ⟨b,18,none⟩=some (.int .u64 lv):=(by have e:=((hSw:Blk _ _ _ _)).cell 18;rw[HMC.o] at e;exact e);have j19:w.cell? ⟨b,19,none⟩=some (.bool lh):=(by have e:=((hSw:Blk _ _ _ _)).cell 19;rw[HMC.o] at e;exact e);have j20:w.cell? ⟨b,20,none⟩=some (.int .i64 lo):=(by have e:=((hSw:Blk _ _ _ _)).cell 20;rw[HMC.o] at e;exact e)
   try simp only[Act.put,sA,sB,sC]
   go_simp<;>(try with_reducible rfl)))
  try simp only[Act.put,sA,sB,sC]
  refine oH 9 rfl fun K hK=>?_
  go_simp;go_at_call 35;refine(HDO.o _ HD.o).mono ?_;rintro e wA ⟨rfl,hs,hz⟩;have HA:=h_ hs;have ZA:=h_ hz;clear hs hz;first|(refine hK.q ?_ fun hh1=>?_)|(go_wp2_with fail;refine hK.q ?_ fun hh1=>?_)
  ·exact ZA.out
  clear hK K hh0;try simp only[Act.put,sA,sB,sC]
  refine oH 15 rfl fun K hK=>?_
  go_simp;go_at_call 39;refine(HTE.o _ HA.o).mono ?_;rintro e wT ⟨rfl,hs,hz⟩;have HT:=h_ hs;have ZT:=h_ hz;clear hs hz;first|(refine hK.q ?_ fun hh2=>?_)|(go_wp2_with fail;refine hK.q ?_ fun hh2=>?_)
  ·exact ZT.out
  clear hK K hh1;try simp only[Act.put,sA,sB,sC]
  refine dH (NoPanic.normal ?_);generalize (wT:World)=wT2 at *
  have kT:=ZT.out;have tf:=kT.frozen;have tl:=kT.lt;have t9:wT2.cell? ⟨b,9,none⟩=some (.slice (some ⟨g,0,none⟩) n D.tc):=(by have e:=(kT).cell 9;rw[HMC.o] at e;exact e);have t11:wT2.cell? ⟨b,11,none⟩=some (.int .i64 kind):=(by have e:=(kT).cell 11;rw[HMC.o] at e;exact e);have t12:wT2.cell? ⟨b,12,none⟩=some (.int .i64 at_):=(by have e:=(kT).cell 12;rw[HMC.o] at e;exact e);have t18:wT2.cell? ⟨b,18,none⟩=some (.int .u64 lv):=(by have e:=(kT).cell 18;rw[HMC.o] at e;exact e)
  clear kT;by_cases h5:kind=5
  ·have d5:((kind:Int) != 5)=false:=by rw[h5];rfl
   have HF3:=h_ (HF22.o h5);have HSZ:=h_ (HK02.o _ HT.o);clear h5 HF1 HF22 HK02 HT;go_wp2;go_loopw [8,9,80] (fun _ _ c wr=>∃k:Nat,k≤n∧c=.int .i64 k∧Hid (Sat ω wr (SK k))) (fun _ _ c _=>n-(intOf c).toNat)
   case atStart=>exact⟨0,by omega,rfl,HSZ.o⟩
   case round =>
    obtain⟨k,hk,rfl,HA2⟩:=hrel;by_cases hlt:k<n
    ·obtain⟨tbk,e1,e2,e3⟩:=HWK2.o k hlt;obtain⟨hgk,r0⟩:=e1 wr HA2.o;have kR:=HKB2.o k wr HA2.o;have rf:=kR.frozen;have rl:=kR.lt;by_cases hki:k=i
     ·have HN:=h_ (e3 hki wr HA2.o);have dk:((k:Int) != (i:Int))=false:=by rw[hki];simp
      clear e1 e2 e3 kR hki;go_wp2;exact⟨⟨k+1,by omega,by go_num,HN.o⟩,by simp[intOf];omega⟩
     ·have HW:=h_ (e2 hki);have dk:((k:Int) != (i:Int))=true:=by simp;omega
      have HAD:=h_ (HA2.o.drewN 1);have HSR:MchS b CS wr.drew:=HKB2.o k _ HAD.o;clear e1 e2 e3 kR hki;go_wp2;refine wp_region_noPanic ?_;refine gH (MchS b CS) HSR fun hh0=>?_
      refine tH 0 ?_ rfl ?_ (tH 1 ?_ rfl ?_ (tH 2 ?_ rfl ?_ (tH 3 ?_ rfl ?_ (tH 4 ?_ rfl ?_ (tH 5 ?_ rfl ?_ (tH 6 ?_ rfl ?_ (tH 7 ?_ rfl ?_ (tH 8 ?_ rfl ?_ (tH 9 ?_ rfl ?_ (tH 10 ?_ rfl ?_ (tH 11 ?_ rfl ?_ ?_)))))))))));all_goals (try (
       intro w hSw;have jl:=hSw.lt;have jf:=hSw.frozen;have j12:w.cell? ⟨b,12,none⟩=some (.int .i64 at_):=(by have e:=((hSw:Blk _ _ _ _)).cell 12;rw[HMC.o] at e;exact e);have j18:w.cell? ⟨b,18,none⟩=some (.int .u64 lv):=(by have e:=((hSw:Blk _ _ _ _)).cell 18;rw[HMC.o] at e;exact e)
       try simp only[Act.put,sA,sB,sC]
       go_simp<;>(try with_reducible rfl)))
      try simp only[Act.put,sA,sB,sC]
      refine oH 12 rfl fun K hK=>?_
      go_simp;go_at_call 40;refine(HW.o _ HAD.o).mono ?_;rintro e wW ⟨rfl,hs,hz⟩;have HWs:=h_ hs;have HWz:=h_ hz;clear hs hz;first|(refine hK.q ?_ fun hh1=>?_)|(go_wp2_with fail;refine hK.q ?_ fun hh1=>?_)
      ·exact HWz.o
      clear hK K hh0;try simp only[Act.put,sA,sB,sC]
      refine dH (NoPanic.normal ?_);go_wp2;exact⟨⟨k+1,by omega,by go_num,HWs.o⟩,by simp[intOf];omega⟩
    ·obtain rfl:k=n:=by omega
     have HZ:=h_ (HF3.o _ HA2.o);go_wp2;go_ret;exact⟨rfl,HZ.o⟩
  ·have d5:((kind:Int) != 5)=true:=by simp;omega
   have HZ:=h_ (HF1.o h5 _ HT.o);clear h5 HF1 HF22 HK02 HWK2 HKB2;go_wp2;go_ret;exact⟨rfl,HZ.o⟩
def jjV (vs:List (Option Addr×Nat))(L:List (List (List PIns))):List Value:=List.zipWith (fun a l=>Value.slice a.1 l.length a.2) vs L
def jjAll:List (Option Addr×Nat)→List (List (List PIns))→HP
 |a::vs,l::L=>jobsH a.1 a.2 l*jjAll vs L
 |_,_=>emp
theorem jjAll_at:∀(vs:List (Option Addr×Nat)) (L:List (List (List PIns))),vs.length=L.length→∀i (hi:i<L.length),∃A c R,(jjV vs L)[i]?=some (.slice A (L.getD i []).length c)∧jjAll vs L=jobsH A c (L.getD i [])*R
 | [],[],_,i,hi=>by simp at hi
 |a::vs,l::L,h,0,_=>⟨a.1,a.2,jjAll vs L,by simp[jjV],by simp[jjAll]⟩
 |a::vs,l::L,h,i+1,hi=>by
  obtain⟨A,c,R,h1,h2⟩:=jjAll_at vs L (by simpa using h) i (by simpa using hi)
  refine⟨A,c,jobsH a.1 a.2 l*R,by simpa [jjV] using h1,?_⟩
  show jobsH a.1 a.2 l*jjAll vs L=_
  rw[h2];simp only[List.getD_cons_succ];ac_rfl
def jjX (A:Option Addr)(c:Nat)(vs:List (Option Addr×Nat))(L:List (List (List PIns))):HP:=row 29 1 (.slice A L.length c) L.length (jjV vs L)*jjAll vs L
def mcK (s:PSt)(L:List (List (List PIns)))(k:Nat):PMc:=⟨s,(doC (mem0 s) ⟨2,5,0,14,PLk.zero,PLk.zero⟩).2,(List.range k).map (fun i=>PTh.new i s (L.getD i [])),0,POp.zero,false⟩
theorem mem1_eq (s:PSt)(h:32≤s.words):(doC (mem0 s) ⟨2,5,0,14,PLk.zero,PLk.zero⟩).2=⟨(List.replicate s.words 0).set 5 14,List.replicate s.stripes PLk.zero,s.start,List.replicate s.threads 0,1⟩:=by
 have e:doM (mem0 s) ⟨2,5,0,14,PLk.zero,PLk.zero⟩=(PAns.zero,{ mem0 s with words:=(mem0 s).words.set 5 14 }):=by
  show(if 1≤5∧5<(mem0 s).words.length then _ else _:PAns×PMm)=_
  rw[if_pos ⟨by omega,by simp[mem0];omega⟩]
 have e2:wrap64 ((0:Int)+1)=1:=by decide +kernel
 unfold doC;rw[e];simp only[PAns.zero,mem0,if_true,e2]
theorem mcK_new (s:PSt)(L:List (List (List PIns)))(h1:1≤L.length)(h4:L.length≤4):mcK { s with threads:=L.length }.held L L.length=PMc.new s L:=by
 have e0:L.take 4=L:=List.take_of_length_le h4;unfold mcK PMc.new;rw[mem1_eq _ (by simp only[PSt.held];omega),e0]
 have e1:({ s with threads:=L.length }:PSt).held.threads=L.length:=by simp only[PSt.held];omega
 simp only[e1];have e2:freshW ({ s with threads:=L.length }:PSt).held.words=(List.replicate ({ s with threads:=L.length }:PSt).held.words 0).set 5 14:=by
  unfold freshW
  have:max 32 (min ({ s with threads:=L.length }:PSt).held.words 256)=({ s with threads:=L.length }:PSt).held.words:=by simp only[PSt.held];omega
  rw[this]
 rw[e2]
theorem mcRow_snoc {ω w:World}{F:HP}{b:Nat}{s:PSt}{L:List (List (List PIns))}{k tb:Nat}{D:McD}{A:Option Addr}{c:Nat}(hl:D.bs.length=k)
  (h:Sat ω w (row 102 1 (.slice A (k+1) c) (k+1) (D.bs.map pV++[pV tb])*(bk b 97 (mcC (mcK s L k) D)*(memH (shOf s) D.mb (mcK s L k).mem*(thAll s D.bs (mcK s L k).thr*(thH tb s (PTh.new k s (L.getD k []))*F)))))):
  Sat ω (w.setCell ⟨b,9,none⟩ (.slice A (k+1) c)) (mcX b (mcK s L (k+1)) { D with tA:=A,tc:=c,bs:=D.bs++[tb] }*F):=by
 have e3:(mcK s L (k+1)).thr=(mcK s L k).thr++[PTh.new k s (L.getD k [])]:=by
  unfold mcK;simp only[List.range_succ,List.map_append,List.map_singleton]
 have e4:(mcK s L (k+1)).thr.length=k+1:=by simp[mcK]
 have e5:(mcK s L k).thr.length=k:=by simp[mcK]
 have h2:=h.swap.put 9 (.slice A (k+1) c) (cs':=mcC (mcK s L (k+1)) { D with tA:=A,tc:=c,bs:=D.bs++[tb] }) (by unfold mcC;simp only[e4,e5];rfl)
 unfold mcX;rw[e4];have h3:=h2.to_fact (p:=(D.bs++[tb]).length=k+1) (by simp[hl])
 have e6:=thAll_snoc s tb (PTh.new k s (L.getD k [])) D.bs (mcK s L k).thr (by rw[hl,e5])
 refine h3.perm ?_;show _=(_*(memH (shOf s) D.mb (mcK s L k).mem*(fact ((D.bs++[tb]).length=k+1)*(row 102 1 (.slice A (k+1) c) (k+1) ((D.bs++[tb]).map pV)*thAll s (D.bs++[tb]) (mcK s L (k+1)).thr))))*F
 rw[e3,e6,List.map_append];show _=(_*(_*(_*(row 102 1 (.slice A (k+1) c) (k+1) (D.bs.map pV++[pV tb])*_))))*F
 ac_rfl
theorem mcX_zero {ω w:World}{F:HP}{b mb:Nat}{s:PSt}{L:List (List (List PIns))}(h:Sat ω w (bk b 97 #[.int .i64 s.words,.int .i64 s.stripes,.int .i64 s.wide,.int .i64 s.threads,.int .u64 s.start,.int .i64 s.spins,.int .i64 s.writes,.int .i64 s.fuel,.pointer (some ⟨mb,0,none⟩),.slice none 0 0,.int .i64 0,.int .i64 0,.int .i64 0,.int .u64 0,.int .u64 0,.int .u64 0,.bool false,.int .i64 0,.int .u64 0,.bool false,.int .i64 0,.bool false]*(memH (shOf s) mb (doC (mem0 s) ⟨2,5,0,14,PLk.zero,PLk.zero⟩).2*F))):Sat ω w (mcX b (mcK s L 0) ⟨mb,none,0,[]⟩*F):=by
 have h1:=(h.nil 102 1).to_fact (p:=([]:List Nat).length=(mcK s L 0).thr.length) rfl;unfold mcX;refine h1.perm ?_;show _=(bk b 97 #[.int .i64 s.words,.int .i64 s.stripes,.int .i64 s.wide,.int .i64 s.threads,.int .u64 s.start,.int .i64 s.spins,.int .i64 s.writes,.int .i64 s.fuel,.pointer (some ⟨mb,0,none⟩),.slice none 0 0,.int .i64 0,.int .i64 0,.int .i64 0,.int .u64 0,.int .u64 0,.int .u64 0,.bool false,.int .i64 0,.int .u64 0,.bool false,.int .i64 0,.bool false]*(memH (shOf s) mb (doC (mem0 s) ⟨2,5,0,14,PLk.zero,PLk.zero⟩).2*(fact (([]:List Nat).length=(mcK s L 0).thr.length)*(row 102 1 (.slice none 0 0) 0 []*emp))))*F
 rw[star_emp];ac_rfl
theorem mcX_row {ω w:World}{F:HP}{b:Nat}{s:PSt}{L:List (List (List PIns))}{k:Nat}{D:McD}(h:Sat ω w (mcX b (mcK s L k) D*F)):D.bs.length=k∧Sat ω w (row 102 1 (.slice D.tA k D.tc) k (D.bs.map pV)*(bk b 97 (mcC (mcK s L k) D)*(memH (shOf s) D.mb (mcK s L k).mem*(thAll s D.bs (mcK s L k).thr*F)))):=by
 obtain⟨h1,h2⟩:=mcX_open h;have e:(mcK s L k).thr.length=k:=by simp[mcK]
 rw[e] at h1;refine⟨h1,?_⟩;have h3:Sat ω w (mcRow (mcK s L k) D*(bk b 97 (mcC (mcK s L k) D)*(memH (shOf s) D.mb (mcK s L k).mem*(thAll s D.bs (mcK s L k).thr*F)))):=h2.perm (by show _*(_*(_*(_*_)))=_;ac_rfl)
 unfold mcRow at h3;rw[e] at h3;exact h3
theorem infoThp_:(Tryz.prog.info? 102).map (fun i=>(i.zero,i.size,i.bytes))=some (some (.pointer none),1,8):=by kernel_rfl
end Go.Proofs.YtfodmgaliclhfaaGreatDoor
