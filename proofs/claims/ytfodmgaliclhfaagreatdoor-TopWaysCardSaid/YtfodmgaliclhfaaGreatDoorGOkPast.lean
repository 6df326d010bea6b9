/- Lemmas. -/
import Derived.Test.YtfodmgaliclhfaaGreatDoorGMcPut
import Derived.Deep.CutBlock
import Derived.Deep.DeepCutAuto
import Derived.Test.YtfodmgaliclhfaaGreatDoorGOkMc
namespace Go.Proofs.YtfodmgaliclhfaaGreatDoor
set_option linter.unusedVariables false
set_option linter.unusedSimpArgs false
set_option maxRecDepth 100000
set_option maxHeartbeats 16000000
open Go.RowKit Go.Proofs.Tryz Iq Jq
theorem Le [Inhabited PowO](ω w:World)(F:HP)(b:Nat)(M:PMc)(hM:McFine M)(hK:M.picks≤100000)(i d:Nat)(hi:i<M.thr.length)(hd:d<256)(h:Sat ω w (mcH b M*(powH*F))):
  Calls prog 13 #[.pointer b,i,.int .u8 d] w (Rets ω (powH*F) (.int .i64 0) (mcH b (M.pick i d))):=by
 obtain⟨D,h⟩:=DS h;obtain⟨hl,h1⟩:=Ad h;obtain⟨n,hn⟩:∃n,M.thr.length=n:=⟨_,rfl⟩;have hn4:n≤4:=by
  obtain⟨s0,e⟩:=hM.set;have h9:=(BW s0).2;have h8:=hM.len;rw[e] at h8;omega
 obtain⟨t,ht⟩:∃t,M.thr[i]?=some t:=⟨_,List.getElem?_eq_getElem hi⟩;obtain⟨hth,hme⟩:=hM.thr i t ht;obtain⟨tb,R,hb,hR,hset⟩:=BQ M.s D.bs M.thr hl i t ht;obtain⟨g,hA,hg,hc⟩:=BR (h1.perm (by ac_rfl:_=(bk b 97 (mcC M D)*memH (shOf M.s) D.mb M.mem)*(mcRow M D*(thAll M.s D.bs M.thr*(powH*F))))) hb
 have hk:=h1.blk;have kf:=hk.frozen;have kl:=hk.lt;have k9:w.cell? (κ b 9)=some (.slice (some ⟨g,0,none⟩) n D.tc):=by
  have:=hk.cell 9
  rw[this];show some (Value.slice D.tA M.thr.length D.tc)=_
  rw[hA,hn]
 obtain⟨pk,hpk⟩:∃pk,M.picks=pk:=⟨_,rfl⟩;have hKp:pk≤100000:=by omega
 have k10:w.cell? (κ b 10)=some (.int .i64 pk):=by rw[←hpk];exact hk.cell 10
 rw[hn] at hi;obtain⟨M1,hM1⟩:∃M1:PMc,M1={M with picks:=M.picks+1}:=⟨_,rfl⟩
 have HS1:Hid (Sat ω (w.setCell (κ b 10) (.int .i64 ((pk:Int)+1))) (bk b 97 (mcC M1 D)*(memH (shOf M.s) D.mb M.mem*(mcRow M D*(thAll M.s D.bs M.thr*(powH*F)))))):=h_ (by
  have e:((pk:Int)+1)=((M.picks+1:Nat):Int):=by rw[hpk];simp
  rw[e,hM1];exact h1.put 10 _ rfl)
 have kb1:=HS1.o.blk;have HNX:Hid (Calls prog 37 #[.pointer tb] (w.setCell (κ b 10) (.int .i64 ((pk:Int)+1))) (AtNext (w.setCell (κ b 10) (.int .i64 ((pk:Int)+1))) t.next)):=h_ (by
  have h2:Sat ω (w.setCell (κ b 10) (.int .i64 ((pk:Int)+1))) (thH tb M.s t*(R*(bk b 97 (mcC M1 D)*(memH (shOf M.s) D.mb M.mem*(mcRow M D*(powH*F)))))):=HS1.o.perm (by rw[hR];ac_rfl)
  exact Rh ω _ _ tb M.s t h2 hth.st fun e=>by obtain⟨x,hx⟩:=hth.some_ e;exact⟨x,hx,(hth.now x hx).well⟩)
 have kc1:(w.setCell (κ b 10) (.int .i64 ((pk:Int)+1))).cell? (κ g i)=some (pV tb):=by
  obtain⟨g',hA',hg',hc'⟩:=BR (HS1.o.perm (by ac_rfl:_=(bk b 97 (mcC M1 D)*memH (shOf M.s) D.mb M.mem)*(mcRow M D*(thAll M.s D.bs M.thr*(powH*F))))) hb
  rw[hA] at hA';injection hA' with e
  injection e with e
  subst e;exact hc'
 obtain⟨o,ho⟩:∃o,t.next.1=o:=⟨_,rfl⟩;obtain⟨ok,hok⟩:∃ok,t.next.2=ok:=⟨_,rfl⟩;have hnx:t.next=(o,ok):=by rw[←ho,←hok]
 have hopf:ok=true→OpFine o:=fun e=>by
  have h9:=hth.next (by rw[hok];exact e)
  rw[ho] at h9;exact h9
 have hE:=PMc.pick;have HE:Hid (M.pick i d=if ok=false then {M with picks:=M.picks+1,last:=o,did:=ok,thr:=M.thr.set i (t.pauseOne M.s)} else
   (if o.kind≠5 then {M with picks:=M.picks+1,last:=o,did:=ok,mem:=(doC M.mem o).2,thr:=M.thr.set i (t.tell M.s (doC M.mem o).1 d (M.picks+1))}
    else {M with picks:=M.picks+1,last:=o,did:=ok,mem:=(doC M.mem o).2,thr:=wakeTo M.s i o.at_ o.lock.ver n (M.thr.set i (t.tell M.s (doC M.mem o).1 d (M.picks+1)))})):=h_ (by
  have e9:(M.thr.set i (t.tell M.s (doC M.mem o).1 d (M.picks+1))).length=n:=by rw[List.length_set];exact hn
  have e8:=JX M.s i o.at_ o.lock.ver (M.thr.set i (t.tell M.s (doC M.mem o).1 d (M.picks+1)));rw[e9] at e8;rw[e8];unfold PMc.pick;rw[ht];simp only[hnx])
 rw[hnx] at HNX;obtain⟨kind,at_,old,word,⟨wv,wh,wo⟩,⟨lv,lh,lo⟩⟩:=o;unfold AtNext opA at HNX;simp only at HNX;have HLS:Hid (∀w1 ok2,ok2=ok→Sat ω w1 (bk b 97 (mcC M1 D)*(memH (shOf M.s) D.mb M.mem*(mcRow M D*(thAll M.s D.bs M.thr*(powH*F)))))→Sat ω (((((((((((w1.setCell (κ b 11) kind).setCell (κ b 12) at_).setCell (κ b 13) (υ old)).setCell (κ b 14) (υ word)).setCell (κ b 15) (υ wv)).setCell (κ b 16) (.bool wh)).setCell (κ b 17) wo).setCell (κ b 18) (υ lv)).setCell (κ b 19) (.bool lh)).setCell (κ b 20) lo).setCell (κ b 21) (.bool ok2)) (bk b 97 (mcC {M1 with last:=⟨kind,at_,old,word,⟨wv,wh,wo⟩,⟨lv,lh,lo⟩⟩,did:=ok} D)*(memH (shOf M.s) D.mb M.mem*(mcRow M D*(thAll M.s D.bs M.thr*(powH*F)))))):=h_ (fun w1 ok2 e h9=>by subst e;exact KL kind at_ old word wv wo lv lo wh lh ok2 h9)
 have HBL:Hid (∀w1,Sat ω w1 (bk b 97 (mcC M1 D)*(memH (shOf M.s) D.mb M.mem*(mcRow M D*(thAll M.s D.bs M.thr*(powH*F)))))→Blk w1 b 97 (mcC M1 D)):=h_ (fun w1 h9=>h9.blk)
 have HS:=h_ hM.kept;have HTH:=h_ hth;obtain⟨y0,hy0⟩:∃y0,M.pick i d=y0:=⟨_,rfl⟩;rw[hy0] at HE ⊢;have dge:¬(n:Int)≤(i:Int):=by omega
 have dlt:¬(i:Int)<0:=by omega
 have dil:(i:Int)<(n:Int):=by omega
 cases ok
 ·have HPO:Hid (∀w1,Sat ω w1 (bk b 97 (mcC {M1 with last:=⟨kind,at_,old,word,⟨wv,wh,wo⟩,⟨lv,lh,lo⟩⟩,did:=false} D)*(memH (shOf M.s) D.mb M.mem*(mcRow M D*(thAll M.s D.bs M.thr*(powH*F)))))→Calls prog 38 #[.pointer tb] w1 (Rets ω (powH*F) (.tuple #[]) (mcH b y0))):=h_ (fun w1 h9=>by
   have h10:Sat ω w1 (thH tb M.s t*(R*(bk b 97 (mcC {M1 with last:=⟨kind,at_,old,word,⟨wv,wh,wo⟩,⟨lv,lh,lo⟩⟩,did:=false} D)*(memH (shOf M.s) D.mb M.mem*(mcRow M D*(powH*F)))))):=h9.perm (by rw[hR];ac_rfl)
   refine(Hr ω w1 _ tb M.s t h10 HS.o HTH.o.toThBase.fit HTH.o.pz).mono ?_;rintro e w2 ⟨rfl,h11⟩;refine⟨rfl,?_⟩;rw[HE.o,if_pos rfl];refine CF (D:=D) (by simpa using hl) ?_
   have e1:mcC {M with picks:=M.picks+1,last:=⟨kind,at_,old,word,⟨wv,wh,wo⟩,⟨lv,lh,lo⟩⟩,did:=false,thr:=M.thr.set i (t.pauseOne M.s)} D=mcC {M1 with last:=⟨kind,at_,old,word,⟨wv,wh,wo⟩,⟨lv,lh,lo⟩⟩,did:=false} D:=by
    rw[hM1];unfold mcC;simp only[List.length_set]
   have e2:mcRow {M with picks:=M.picks+1,last:=⟨kind,at_,old,word,⟨wv,wh,wo⟩,⟨lv,lh,lo⟩⟩,did:=false,thr:=M.thr.set i (t.pauseOne M.s)} D=mcRow M D:=by
    unfold mcRow;simp only[List.length_set]
   rw[e1,e2];refine h11.perm ?_;simp only;rw[hset];ac_rfl)
  go_enter func13,ntmps13;go_wp2_with (first
   |(go_at_call 37;refine(HNX.o).mono ?_;rintro e w1 ⟨rfl,ho⟩;have HB:=h_ (HS1.o.nob ho);have kM:=HBL.o _ HB.o;have qf:=kM.frozen;have ql:=kM.lt;obtain⟨u11_,m11⟩:∃u,w1.cell? (κ b 11)=some u:=⟨_,kM.cell 11⟩;obtain⟨u12_,m12⟩:∃u,w1.cell? (κ b 12)=some u:=⟨_,kM.cell 12⟩;obtain⟨u13_,m13⟩:∃u,w1.cell? (κ b 13)=some u:=⟨_,kM.cell 13⟩;obtain⟨u14_,m14⟩:∃u,w1.cell? (κ b 14)=some u:=⟨_,kM.cell 14⟩;obtain⟨u15_,m15⟩:∃u,w1.cell? (κ b 15)=some u:=⟨_,kM.cell 15⟩;obtain⟨u16_,m16⟩:∃u,w1.cell? (κ b 16)=some u:=⟨_,kM.cell 16⟩;obtain⟨u17_,m17⟩:∃u,w1.cell? (κ b 17)=some u:=⟨_,kM.cell 17⟩;obtain⟨u18_,m18⟩:∃u,w1.cell? (κ b 18)=some u:=⟨_,kM.cell 18⟩;obtain⟨u19_,m19⟩:∃u,w1.cell? (κ b 19)=some u:=⟨_,kM.cell 19⟩;obtain⟨u20_,m20⟩:∃u,w1.cell? (κ b 20)=some u:=⟨_,kM.cell 20⟩;obtain⟨u21_,m21⟩:∃u,w1.cell? (κ b 21)=some u:=⟨_,kM.cell 21⟩)
   |(go_at_call 38;refine(HPO.o _ (HLS.o _ _ rfl HB.o)).mono ?_;rintro e w2 ⟨rfl,hs⟩;have HZ:=h_ hs))
  go_ret;exact⟨rfl,HZ.o⟩
 ·obtain⟨M2,hM2⟩:∃M2:PMc,M2={M1 with last:=⟨kind,at_,old,word,⟨wv,wh,wo⟩,⟨lv,lh,lo⟩⟩,did:=true}:=⟨_,rfl⟩
  rw[←hM2] at HLS;have hof:=hopf rfl;obtain⟨r,hr⟩:∃r,doC M.mem ⟨kind,at_,old,word,⟨wv,wh,wo⟩,⟨lv,lh,lo⟩⟩=r:=⟨_,rfl⟩;rw[hr] at HE;obtain⟨t2,ht2⟩:∃t2,t.tell M.s r.1 d (M.picks+1)=t2:=⟨_,rfl⟩;rw[ht2] at HE;have hrd:r.1=(doM M.mem ⟨kind,at_,old,word,⟨wv,wh,wo⟩,⟨lv,lh,lo⟩⟩).1:=by rw[←hr];rfl
  have HDO:Hid (∀w1,Sat ω w1 (bk b 97 (mcC M2 D)*(memH (shOf M.s) D.mb M.mem*(mcRow M D*(thAll M.s D.bs M.thr*(powH*F)))))→Calls prog 35 #[.pointer D.mb,.agg #[kind,at_,υ old,υ word,υ wv,.bool wh,wo,υ lv,.bool lh,lo]] w1 fun e w'=>e=.returned (ansA r.1)∧Sat ω w' (bk b 97 (mcC M2 D)*(memH (shOf M.s) D.mb r.2*(mcRow M D*(thAll M.s D.bs M.thr*(powH*F)))))∧Blk w' b 97 (mcC M2 D)):=h_ (fun w1 h9=>by
   refine(PN ω w1 _ (shOf M.s) D.mb M.mem h9.swap hM.mem.fits ⟨kind,at_,old,word,⟨wv,wh,wo⟩,⟨lv,lh,lo⟩⟩ hof.at_ ⟨hof.k1,hof.k2⟩).mono ?_;rintro e w2 ⟨rfl,h10⟩;rw[hr] at h10 ⊢;exact⟨rfl,h10.swap,h10.swap.blk⟩)
  have hstf:StFine M.s∧M.s.threads≤1000:=by
   obtain⟨s0,e⟩:=hM.set;have h9:=BW s0;rw[e];exact⟨h9.1,by have:=h9.2;omega⟩
  have hn2:t.next.2=true:=by rw[hnx]
  have hn1:t.next.1=⟨kind,at_,old,word,⟨wv,wh,wo⟩,⟨lv,lh,lo⟩⟩:=by rw[hnx]
  have HT2F:Hid (ThFine (M.picks+1) t2):=h_ (by
   have h9:=hth.tell hstf.1 hstf.2 hM.mem hn2 d (M.picks+1) (Nat.le_refl _);rw[hn1,←hrd,ht2] at h9;exact h9)
  have HTE:Hid (∀w1,Sat ω w1 (bk b 97 (mcC M2 D)*(memH (shOf M.s) D.mb r.2*(mcRow M D*(thAll M.s D.bs M.thr*(powH*F)))))→Calls prog 39 #[.pointer tb,ansA r.1,.int .u8 d,(M.picks+1:Nat)] w1 fun e w'=>e=.returned (.tuple #[])∧Sat ω w' (bk b 97 (mcC M2 D)*(memH (shOf M.s) D.mb r.2*(mcRow M D*(thAll M.s D.bs (M.thr.set i t2)*(powH*F)))))∧Blk w' b 97 (mcC M2 D)):=h_ (fun w1 h9=>by
   have h10:Sat ω w1 (thH tb M.s t*(powH*(R*(bk b 97 (mcC M2 D)*(memH (shOf M.s) D.mb r.2*(mcRow M D*F)))))):=h9.perm (by rw[hR];ac_rfl)
   refine(Rg ω w1 _ tb M.s t h10 HS.o M.picks HTH.o (by omega) r.1 d (M.picks+1) hd ?_).mono ?_
   ·intro e1 x hx;have h11:=HTH.o.now x hx;have hxn:t.next=x.next:=by unfold PTh.next;rw[e1,hx];rfl
    have hx2:x.next.2=true:=by rw[←hxn];exact hn2
    have hx1:x.next.1=⟨kind,at_,old,word,⟨wv,wh,wo⟩,⟨lv,lh,lo⟩⟩:=by rw[←hxn];exact hn1
    refine⟨h11,?_,?_⟩
    ·have h12:=h11.tell hstf.1 hM.mem hx2;rw[hx1,←hrd] at h12;exact h12
    ·intro h13 f hf;have h12:=h11.tell_word hM.mem hx2 h13 f hf;rw[hx1,←hrd] at h12;exact h12
   ·rintro e w2 ⟨rfl,h11⟩;rw[ht2] at h11;have h12:Sat ω w2 (bk b 97 (mcC M2 D)*(memH (shOf M.s) D.mb r.2*(mcRow M D*(thAll M.s D.bs (M.thr.set i t2)*(powH*F))))):=h11.perm (by rw[hset];ac_rfl)
    exact⟨rfl,h12,h12.blk⟩)
  have hM2c:mcC M2 D=#[.int .i64 M.s.words,.int .i64 M.s.stripes,.int .i64 M.s.wide,.int .i64 M.s.threads,.int .u64 M.s.start,.int .i64 M.s.spins,.int .i64 M.s.writes,.int .i64 M.s.fuel,pV D.mb,.slice (some ⟨g,0,none⟩) n D.tc,.int .i64 ((M.picks+1:Nat):Int),.int .i64 kind,.int .i64 at_,.int .u64 old,.int .u64 word,.int .u64 wv,.bool wh,.int .i64 wo,.int .u64 lv,.bool lh,.int .i64 lo,.bool true]:=by rw[hM2,hM1,←hA,←hn];rfl
  have HCL:Hid (∀w1 thr,thr.length=n→M.pick i d={M with picks:=M.picks+1,last:=⟨kind,at_,old,word,⟨wv,wh,wo⟩,⟨lv,lh,lo⟩⟩,did:=true,mem:=r.2,thr:=thr}→Sat ω w1 (bk b 97 (mcC M2 D)*(memH (shOf M.s) D.mb r.2*(mcRow M D*(thAll M.s D.bs thr*(powH*F)))))→Sat ω w1 (mcH b y0*(powH*F))):=h_ (fun w1 thr hlen e h9=>by
   rw[←hy0,e];refine CF (D:=D) (by simp only;omega) ?_
   have e1:mcC {M with picks:=M.picks+1,last:=⟨kind,at_,old,word,⟨wv,wh,wo⟩,⟨lv,lh,lo⟩⟩,did:=true,mem:=r.2,thr:=thr} D=mcC M2 D:=by
    rw[hM2,hM1];unfold mcC;simp only[hlen,hn]
   have e2:mcRow {M with picks:=M.picks+1,last:=⟨kind,at_,old,word,⟨wv,wh,wo⟩,⟨lv,lh,lo⟩⟩,did:=true,mem:=r.2,thr:=thr} D=mcRow M D:=by
    unfold mcRow;simp only[hlen,hn]
   rw[e1,e2];exact h9)
  have HWK:Hid (∀k,k<n→∃tbk,(∀w1,Sat ω w1 (bk b 97 (mcC M2 D)*(memH (shOf M.s) D.mb r.2*(mcRow M D*(thAll M.s D.bs (wakeTo M.s i at_ lv (k) (M.thr.set i t2))*(powH*F)))))→g<w1.heap.size∧w1.cell? (κ g k)=some (pV tbk))∧(k≠i→∀w1,Sat ω w1 (bk b 97 (mcC M2 D)*(memH (shOf M.s) D.mb r.2*(mcRow M D*(thAll M.s D.bs (wakeTo M.s i at_ lv (k) (M.thr.set i t2))*(powH*F)))))→Calls prog 40 #[.pointer (some ⟨tbk,0,none⟩),at_,υ lv] w1 fun e w'=>e=.returned (.tuple #[])∧Sat ω w' (bk b 97 (mcC M2 D)*(memH (shOf M.s) D.mb r.2*(mcRow M D*(thAll M.s D.bs (wakeTo M.s i at_ lv (k+1) (M.thr.set i t2))*(powH*F)))))∧Blk w' b 97 (mcC M2 D))∧(k=i→∀w1,Sat ω w1 (bk b 97 (mcC M2 D)*(memH (shOf M.s) D.mb r.2*(mcRow M D*(thAll M.s D.bs (wakeTo M.s i at_ lv (k) (M.thr.set i t2))*(powH*F)))))→Sat ω w1 (bk b 97 (mcC M2 D)*(memH (shOf M.s) D.mb r.2*(mcRow M D*(thAll M.s D.bs (wakeTo M.s i at_ lv (k+1) (M.thr.set i t2))*(powH*F))))))):=h_ (fun k hk=>by
   obtain⟨o,ho⟩:∃o,(M.thr.set i t2)[k]?=some o:=⟨_,List.getElem?_eq_getElem (by rw[List.length_set];omega)⟩
   have hw1:=MQ M.s i at_ lv k (M.thr.set i t2);rw[ho] at hw1;have hlk:D.bs.length=(wakeTo M.s i at_ lv k (M.thr.set i t2)).length:=by rw[CW,List.length_set];exact hl
   obtain⟨tbk,Rk,hbk,hRk,hsetk⟩:=BQ M.s D.bs _ hlk k o hw1;refine⟨tbk,fun w1 h9=>?_,fun hne w1 h9=>?_,fun he w1 h9=>?_⟩
   ·obtain⟨g',hA',hg',hc'⟩:=BR (h9.perm (by ac_rfl:_=(bk b 97 (mcC M2 D)*memH (shOf M.s) D.mb r.2)*(mcRow M D*(thAll M.s D.bs (wakeTo M.s i at_ lv k (M.thr.set i t2))*(powH*F))))) hbk
    rw[hA] at hA';injection hA' with e
    injection e with e
    subst e;exact⟨hg',hc'⟩
   ·have hof9:ThFine M.picks o:=by
     rw[List.getElem?_set_ne (Ne.symm hne)] at ho;exact(hM.thr k o ho).1
    have h10:Sat ω w1 (thH tbk M.s o*(Rk*(bk b 97 (mcC M2 D)*(memH (shOf M.s) D.mb r.2*(mcRow M D*(powH*F)))))):=h9.perm (by rw[hRk];ac_rfl)
    refine(Rf ω w1 _ tbk M.s o h10 HS.o hof9.toThBase.fit (fun x hx=>(hof9.now x hx).reads) at_ lv).mono ?_
    rintro e w2 ⟨rfl,h11⟩;have hsu:=DZ M.s i at_ lv k (M.thr.set i t2) o ho;rw[if_neg hne] at hsu;have h12:Sat ω w2 (bk b 97 (mcC M2 D)*(memH (shOf M.s) D.mb r.2*(mcRow M D*(thAll M.s D.bs (wakeTo M.s i at_ lv (k+1) (M.thr.set i t2))*(powH*F))))):=h11.perm (by rw[hsu,hsetk];ac_rfl)
    exact⟨rfl,h12,h12.blk⟩
   ·have hsu:=DZ M.s i at_ lv k (M.thr.set i t2) o ho;rw[if_pos he] at hsu;refine h9.perm ?_;rw[hsu,hsetk,hRk])
  have HKB:Hid (∀k w1,Sat ω w1 (bk b 97 (mcC M2 D)*(memH (shOf M.s) D.mb r.2*(mcRow M D*(thAll M.s D.bs (wakeTo M.s i at_ lv (k) (M.thr.set i t2))*(powH*F)))))→Blk w1 b 97 (mcC M2 D)):=h_ (fun k w1 h9=>h9.blk)
  have HK0:Hid (∀w1,Sat ω w1 (bk b 97 (mcC M2 D)*(memH (shOf M.s) D.mb r.2*(mcRow M D*(thAll M.s D.bs (M.thr.set i t2)*(powH*F)))))→Sat ω w1 (bk b 97 (mcC M2 D)*(memH (shOf M.s) D.mb r.2*(mcRow M D*(thAll M.s D.bs (wakeTo M.s i at_ lv (0) (M.thr.set i t2))*(powH*F)))))):=h_ (fun w1 h9=>by rw[Hj];exact h9)
  have HF1:Hid (kind≠5→∀w1,Sat ω w1 (bk b 97 (mcC M2 D)*(memH (shOf M.s) D.mb r.2*(mcRow M D*(thAll M.s D.bs (M.thr.set i t2)*(powH*F)))))→Sat ω w1 (mcH b y0*(powH*F))):=h_ (fun hk9 w1 h9=>HCL.o w1 _ (by rw[List.length_set];exact hn) (by rw[hy0,HE.o,if_neg (by simp),if_pos hk9]) h9)
  have HF2:Hid (kind=5→∀w1,Sat ω w1 (bk b 97 (mcC M2 D)*(memH (shOf M.s) D.mb r.2*(mcRow M D*(thAll M.s D.bs (wakeTo M.s i at_ lv (n) (M.thr.set i t2))*(powH*F)))))→Sat ω w1 (mcH b y0*(powH*F))):=h_ (fun hk9 w1 h9=>HCL.o w1 _ (by rw[CW,List.length_set];exact hn) (by rw[hy0,HE.o,if_neg (by simp),if_neg (by simp[hk9])]) h9)
  have HMC:=h_ hM2c;have HLB:Hid (∀w1,Sat ω w1 (bk b 97 (mcC M2 D)*(memH (shOf M.s) D.mb M.mem*(mcRow M D*(thAll M.s D.bs M.thr*(powH*F)))))→Blk w1 b 97 (mcC M2 D)):=h_ (fun w1 h9=>h9.blk)
  obtain⟨SK,hSK⟩:∃SK:Nat→HP,SK=fun k=>bk b 97 (mcC M2 D)*(memH (shOf M.s) D.mb r.2*(mcRow M D*(thAll M.s D.bs (wakeTo M.s i at_ lv (k) (M.thr.set i t2))*(powH*F)))):=⟨_,rfl⟩
  have HWK2:Hid (∀k,k<n→∃tbk,(∀w1,Sat ω w1 (SK k)→g<w1.heap.size∧w1.cell? (κ g k)=some (pV tbk))∧(k≠i→∀w1,Sat ω w1 (SK k)→Calls prog 40 #[.pointer (some ⟨tbk,0,none⟩),at_,υ lv] w1 fun e w'=>e=.returned (.tuple #[])∧Sat ω w' (SK (k+1))∧Blk w' b 97 (mcC M2 D))∧(k=i→∀w1,Sat ω w1 (SK k)→Sat ω w1 (SK (k+1)))):=h_ (by rw[hSK];exact HWK.o)
  have HKB2:Hid (∀k w1,Sat ω w1 (SK k)→Blk w1 b 97 (mcC M2 D)):=h_ (by rw[hSK];exact HKB.o)
  have HK02:Hid (∀w1,Sat ω w1 (bk b 97 (mcC M2 D)*(memH (shOf M.s) D.mb r.2*(mcRow M D*(thAll M.s D.bs (M.thr.set i t2)*(powH*F)))))→Sat ω w1 (SK 0)):=h_ (by rw[hSK];exact HK0.o)
  have HF22:Hid (kind=5→∀w1,Sat ω w1 (SK n)→Sat ω w1 (mcH b y0*(powH*F))):=h_ (by rw[hSK];exact HF2.o)
  obtain⟨CS,hCS⟩:∃CS,mcC M2 D=CS:=⟨_,rfl⟩;rw[hCS] at HWK2 HKB2 HK02 HF1 HMC HLB HDO HTE HLS;rw[←hpk] at HS1;rw[hpk] at HS1 HTE HMC;obtain⟨an,han⟩:∃an,ansA r.1=an:=⟨_,rfl⟩;rw[han] at HDO HTE;go_enter func13,ntmps13;go_wp2_with (go_at_call 37;refine(HNX.o).mono ?_;rintro e w1 ⟨rfl,ho⟩;have HB:=h_ (HS1.o.nob ho);have kM:=HBL.o _ HB.o;have qf:=kM.frozen;have ql:=kM.lt;obtain⟨u11_,m11⟩:∃u,w1.cell? (κ b 11)=some u:=⟨_,kM.cell 11⟩;obtain⟨u12_,m12⟩:∃u,w1.cell? (κ b 12)=some u:=⟨_,kM.cell 12⟩;obtain⟨u13_,m13⟩:∃u,w1.cell? (κ b 13)=some u:=⟨_,kM.cell 13⟩;obtain⟨u14_,m14⟩:∃u,w1.cell? (κ b 14)=some u:=⟨_,kM.cell 14⟩;obtain⟨u15_,m15⟩:∃u,w1.cell? (κ b 15)=some u:=⟨_,kM.cell 15⟩;obtain⟨u16_,m16⟩:∃u,w1.cell? (κ b 16)=some u:=⟨_,kM.cell 16⟩;obtain⟨u17_,m17⟩:∃u,w1.cell? (κ b 17)=some u:=⟨_,kM.cell 17⟩;obtain⟨u18_,m18⟩:∃u,w1.cell? (κ b 18)=some u:=⟨_,kM.cell 18⟩;obtain⟨u19_,m19⟩:∃u,w1.cell? (κ b 19)=some u:=⟨_,kM.cell 19⟩;obtain⟨u20_,m20⟩:∃u,w1.cell? (κ b 20)=some u:=⟨_,kM.cell 20⟩;obtain⟨u21_,m21⟩:∃u,w1.cell? (κ b 21)=some u:=⟨_,kM.cell 21⟩);have HD0:=h_ (HLS.o _ true rfl HB.o);generalize (((((((((((w1.setCell (κ b 11) kind).setCell (κ b 12) at_).setCell (κ b 13) (υ old)).setCell (κ b 14) (υ word)).setCell (κ b 15) (υ wv)).setCell (κ b 16) (.bool wh)).setCell (κ b 17) wo).setCell (κ b 18) (υ lv)).setCell (κ b 19) (.bool lh)).setCell (κ b 20) lo).setCell (κ b 21) (.bool true))=wC at *
  have HD:=h_ (HD0.o.drewN 1);have HS0:MchS b CS wC.drew:=HLB.o _ HD.o;refine gN (MchS b CS) HS0 fun hh0=>?_
  refine tH 0 ?_ rfl ?_ (tH 1 ?_ rfl ?_ (tH 2 ?_ rfl ?_ (tH 3 ?_ rfl ?_ (tH 4 ?_ rfl ?_ (tH 5 ?_ rfl ?_ (tH 6 ?_ rfl ?_ (tH 7 ?_ rfl ?_ (tH 8 ?_ rfl ?_ (tH 10 ?_ rfl ?_ (tH 11 ?_ rfl ?_ (tH 12 ?_ rfl ?_ (tH 13 ?_ rfl ?_ (tH 14 ?_ rfl ?_ ?_)))))))))))));all_goals (try (
   intro w hSw;have jl:=hSw.lt;have jf:=hSw.frozen;have j8:w.cell? (κ b 8)=some (.pointer D.mb):=(by have e:=((hSw:Blk _ _ _ _)).cell 8;rw[HMC.o] at e;exact e);have j10:w.cell? (κ b 10)=some (.int .i64 ((pk+1:Nat):Int)):=(by have e:=((hSw:Blk _ _ _ _)).cell 10;rw[HMC.o] at e;exact e);have j11:w.cell? (κ b 11)=some (.int .i64 kind):=(by have e:=((hSw:Blk _ _ _ _)).cell 11;rw[HMC.o] at e;exact e);have j12:w.cell? (κ b 12)=some (.int .i64 at_):=(by have e:=((hSw:Blk _ _ _ _)).cell 12;rw[HMC.o] at e;exact e);have j13:w.cell? (κ b 13)=some (.int .u64 old):=(by have e:=((hSw:Blk _ _ _ _)).cell 13;rw[HMC.o] at e;exact e);have j14:w.cell? (κ b 14)=some (.int .u64 word):=(by have e:=((hSw:Blk _ _ _ _)).cell 14;rw[HMC.o] at e;exact e);have j15:w.cell? (κ b 15)=some (.int .u64 wv):=(by have e:=((hSw:Blk _ _ _ _)).cell 15;rw[HMC.o] at e;exact e);have j16:w.cell? (κ b 16)=some (.bool wh):=(by have e:=((hSw:Blk _ _ _ _)).cell 16;rw[HMC.o] at e;exact e);have j17:w.cell? (κ b 17)=some (.int .i64 wo):=(by have e:=((hSw:Blk _ _ _ _)).cell 17;rw[HMC.o] at e;exact e);have j18:w.cell? (κ b 18)=some (.int .u64 lv):=(by have e:=((hSw:Blk _ _ _ _)).cell 18;rw[HMC.o] at e;exact e);have j19:w.cell? (κ b 19)=some (.bool lh):=(by have e:=((hSw:Blk _ _ _ _)).cell 19;rw[HMC.o] at e;exact e);have j20:w.cell? (κ b 20)=some (.int .i64 lo):=(by have e:=((hSw:Blk _ _ _ _)).cell 20;rw[HMC.o] at e;exact e)
   try simp only[sP]
   go_simp<;>(try with_reducible rfl)))
  try simp only[sP]
  refine oH 9 rfl fun K hK=>?_
  go_simp;go_at_call 35;refine(HDO.o _ HD.o).mono ?_;rintro e wA ⟨rfl,hs,hz⟩;have HA:=h_ hs;have ZA:=h_ hz;(try go_wp2_with fail);refine hK.q ?_ fun hh1=>?_
  ·exact ZA.out
  try simp only[sP]
  refine oH 15 rfl fun K hK=>?_
  go_simp;go_at_call 39;refine(HTE.o _ HA.o).mono ?_;rintro e wT ⟨rfl,hs,hz⟩;have HT:=h_ hs;have ZT:=h_ hz;clear hs hz;(try go_wp2_with fail);refine hK.q ?_ fun hh2=>?_
  ·exact ZT.out
  clear hK K hh1;try simp only[sP]
  refine dN ?_;generalize (wT:World)=wT2 at *
  have kT:=ZT.out;have tf:=kT.frozen;have tl:=kT.lt;have t9:wT2.cell? (κ b 9)=some (.slice (some ⟨g,0,none⟩) n D.tc):=(by have e:=(kT).cell 9;rw[HMC.o] at e;exact e);have t11:wT2.cell? (κ b 11)=some (.int .i64 kind):=(by have e:=(kT).cell 11;rw[HMC.o] at e;exact e);have t12:wT2.cell? (κ b 12)=some (.int .i64 at_):=(by have e:=(kT).cell 12;rw[HMC.o] at e;exact e);have t18:wT2.cell? (κ b 18)=some (.int .u64 lv):=(by have e:=(kT).cell 18;rw[HMC.o] at e;exact e)
  clear kT;by_cases h5:kind=5
  ·have d5:((kind:Int) != 5)=false:=by rw[h5];rfl
   have HF3:=h_ (HF22.o h5);have HSZ:=h_ (HK02.o _ HT.o);clear h5 HF1 HF22 HK02 HT;go_wp2;go_loopw [8,9,80] (fun _ _ c wr=>∃k:Nat,k≤n∧c=.int .i64 k∧Hid (Sat ω wr (SK k))) (fun _ _ c _=>n-(intOf c).toNat)
   case atStart=>exact⟨0,by omega,rfl,HSZ.o⟩
   case round =>
    obtain⟨k,hk,rfl,HA2⟩:=hrel;by_cases hlt:k<n
    ·obtain⟨tbk,e1,e2,e3⟩:=HWK2.o k hlt;obtain⟨hgk,r0⟩:=e1 wr HA2.o;have kR:=HKB2.o k wr HA2.o;have rf:=kR.frozen;have rl:=kR.lt;by_cases hki:k=i
     ·have HN:=h_ (e3 hki wr HA2.o);have dk:((k:Int) != (i:Int))=false:=by rw[hki];simp
      clear e1 e2 e3 kR hki;go_wp2;exact⟨⟨k+1,by omega,by go_num,HN.o⟩,by simp[intOf];omega⟩
     ·have HW:=h_ (e2 hki);have dk:((k:Int) != (i:Int))=true:=by simp;omega
      have HAD:=h_ (HA2.o.drewN 1);have HSR:MchS b CS wr.drew:=HKB2.o k _ HAD.o;clear e1 e2 e3 kR hki;go_wp2;refine gN (MchS b CS) HSR fun hh0=>?_
      refine tH 0 ?_ rfl ?_ (tH 1 ?_ rfl ?_ (tH 2 ?_ rfl ?_ (tH 3 ?_ rfl ?_ (tH 4 ?_ rfl ?_ (tH 5 ?_ rfl ?_ (tH 6 ?_ rfl ?_ (tH 7 ?_ rfl ?_ (tH 8 ?_ rfl ?_ (tH 9 ?_ rfl ?_ (tH 10 ?_ rfl ?_ (tH 11 ?_ rfl ?_ ?_)))))))))));all_goals (try (
       intro w hSw;have jl:=hSw.lt;have jf:=hSw.frozen;have j12:w.cell? (κ b 12)=some (.int .i64 at_):=(by have e:=((hSw:Blk _ _ _ _)).cell 12;rw[HMC.o] at e;exact e);have j18:w.cell? (κ b 18)=some (.int .u64 lv):=(by have e:=((hSw:Blk _ _ _ _)).cell 18;rw[HMC.o] at e;exact e)
       try simp only[sP]
       go_simp<;>(try with_reducible rfl)))
      try simp only[sP]
      refine oH 12 rfl fun K hK=>?_
      go_simp;go_at_call 40;refine(HW.o _ HAD.o).mono ?_;rintro e wW ⟨rfl,hs,hz⟩;have HWs:=h_ hs;have HWz:=h_ hz;clear hs hz;(try go_wp2_with fail);refine hK.q ?_ fun hh1=>?_
      ·exact HWz.o
      clear hK K hh0;try simp only[sP]
      refine dN ?_;go_wp2;exact⟨⟨k+1,by omega,by go_num,HWs.o⟩,by simp[intOf];omega⟩
    ·obtain rfl:k=n:=by omega
     have HZ:=h_ (HF3.o _ HA2.o);go_wp2;go_ret;exact⟨rfl,HZ.o⟩
  ·have d5:((kind:Int) != 5)=true:=by simp;omega
   have HZ:=h_ (HF1.o h5 _ HT.o);clear h5 HF1 HF22 HK02 HWK2 HKB2;go_wp2;go_ret;exact⟨rfl,HZ.o⟩
def jjV (vs:List (Option Addr×Nat))(L:List (List (List PIns))):List Value:=List.zipWith (fun a l=>Value.slice a.1 l.length a.2) vs L
def jjAll:List (Option Addr×Nat)→List (List (List PIns))→HP
 |a::vs,l::L=>jobsH a.1 a.2 l*jjAll vs L
 |_,_=>emp
theorem IX:∀(vs:List (Option Addr×Nat)) (L:List (List (List PIns))),vs.length=L.length→∀i (hi:i<L.length),∃A c R,(jjV vs L)[i]?=some (.slice A (L.getD i []).length c)∧jjAll vs L=jobsH A c (L.getD i [])*R
 | [],[],_,i,hi=>by simp at hi
 |a::vs,l::L,h,0,_=>⟨a.1,a.2,jjAll vs L,by simp[jjV],by simp[jjAll]⟩
 |a::vs,l::L,h,i+1,hi=>by
  obtain⟨A,c,R,h1,h2⟩:=IX vs L (by simpa using h) i (by simpa using hi)
  refine⟨A,c,jobsH a.1 a.2 l*R,by simpa [jjV] using h1,?_⟩
  show jobsH a.1 a.2 l*jjAll vs L=_
  rw[h2];simp only[List.getD_cons_succ];ac_rfl
def jjX (A:Option Addr)(c:Nat)(vs:List (Option Addr×Nat))(L:List (List (List PIns))):HP:=row 29 1 (.slice A L.length c) L.length (jjV vs L)*jjAll vs L
def mcK (s:PSt)(L:List (List (List PIns)))(k:Nat):PMc:=⟨s,(doC (mem0 s) ⟨2,5,0,14,PLk.zero,PLk.zero⟩).2,(List.range k).map (fun i=>PTh.new i s (L.getD i [])),0,POp.zero,false⟩
theorem Rz (s:PSt)(h:32≤s.words):(doC (mem0 s) ⟨2,5,0,14,PLk.zero,PLk.zero⟩).2=⟨(List.replicate s.words 0).set 5 14,List.replicate s.stripes PLk.zero,s.start,List.replicate s.threads 0,1⟩:=by
 have e:doM (mem0 s) ⟨2,5,0,14,PLk.zero,PLk.zero⟩=(PAns.zero,{mem0 s with words:=(mem0 s).words.set 5 14}):=by
  show(if 1≤5∧5<(mem0 s).words.length then _ else _:PAns×PMm)=_
  rw[if_pos ⟨by omega,by simp[mem0];omega⟩]
 have e2:wrap64 ((0:Int)+1)=1:=by decide +kernel
 unfold doC;rw[e];simp only[PAns.zero,mem0,if_true,e2]
theorem SA (s:PSt)(L:List (List (List PIns)))(h4:L.length≤4):mcK {s with threads:=L.length}.held L (max 1 L.length)=PMc.new s L:=by
 have e0:L.take 4=L:=List.take_of_length_le h4;unfold mcK PMc.new;rw[Rz _ (by simp only[PSt.held];omega),e0]
 have e1:({s with threads:=L.length}:PSt).held.threads=max 1 L.length:=by simp only[PSt.held];omega
 simp only[e1];have e2:freshW ({s with threads:=L.length}:PSt).held.words=(List.replicate ({s with threads:=L.length}:PSt).held.words 0).set 5 14:=by
  unfold freshW
  have:max 32 (min ({s with threads:=L.length}:PSt).held.words 256)=({s with threads:=L.length}:PSt).held.words:=by simp only[PSt.held];omega
  rw[this]
 rw[e2]
theorem CH {ω w:World}{F:HP}(h:Sat ω w F):Sat ω w (jobsH none 0 []*F):=by
 refine Sat.to_ex [] ?_;refine(Sat.to_fact rfl ?_).assoc';refine Sat.assoc' ?_;refine Sat.nil ?_ _ _;show Sat ω w (emp*F)
 rw[AD];exact h
theorem KM {ω w:World}{F:HP}{b:Nat}{s:PSt}{L:List (List (List PIns))}{k tb:Nat}{D:McD}{A:Option Addr}{c:Nat}(hl:D.bs.length=k)
  (h:Sat ω w (row 102 1 (.slice A (k+1) c) (k+1) (D.bs.map pV++[pV tb])*(bk b 97 (mcC (mcK s L k) D)*(memH (shOf s) D.mb (mcK s L k).mem*(thAll s D.bs (mcK s L k).thr*(thH tb s (PTh.new k s (L.getD k []))*F)))))):
  Sat ω (w.setCell (κ b 9) (.slice A (k+1) c)) (mcX b (mcK s L (k+1)) {D with tA:=A,tc:=c,bs:=D.bs++[tb]}*F):=by
 have e3:(mcK s L (k+1)).thr=(mcK s L k).thr++[PTh.new k s (L.getD k [])]:=by
  unfold mcK;simp only[List.range_succ,List.map_append,List.map_singleton]
 have e4:(mcK s L (k+1)).thr.length=k+1:=by simp[mcK]
 have e5:(mcK s L k).thr.length=k:=by simp[mcK]
 have h2:=h.swap.put 9 (.slice A (k+1) c) (cs':=mcC (mcK s L (k+1)) {D with tA:=A,tc:=c,bs:=D.bs++[tb]}) (by unfold mcC;simp only[e4,e5];rfl)
 unfold mcX;rw[e4];have h3:=h2.to_fact (p:=(D.bs++[tb]).length=k+1) (by simp[hl])
 have e6:=EQ s tb (PTh.new k s (L.getD k [])) D.bs (mcK s L k).thr (by rw[hl,e5])
 refine h3.perm ?_;show _=(_*(memH (shOf s) D.mb (mcK s L k).mem*(fact ((D.bs++[tb]).length=k+1)*(row 102 1 (.slice A (k+1) c) (k+1) ((D.bs++[tb]).map pV)*thAll s (D.bs++[tb]) (mcK s L (k+1)).thr))))*F
 rw[e3,e6,List.map_append];show _=(_*(_*(_*(row 102 1 (.slice A (k+1) c) (k+1) (D.bs.map pV++[pV tb])*_))))*F
 ac_rfl
theorem PR {ω w:World}{F:HP}{b mb:Nat}{s:PSt}{L:List (List (List PIns))}(h:Sat ω w (bk b 97 #[s.words,s.stripes,s.wide,s.threads,υ s.start,s.spins,s.writes,s.fuel,.pointer mb,.slice none 0 0,ι 0,ι 0,ι 0,υ 0,υ 0,υ 0,.bool false,ι 0,υ 0,.bool false,ι 0,.bool false]*(memH (shOf s) mb (doC (mem0 s) ⟨2,5,0,14,PLk.zero,PLk.zero⟩).2*F))):Sat ω w (mcX b (mcK s L 0) ⟨mb,none,0,[]⟩*F):=by
 have h1:=(h.nil 102 1).to_fact (p:=([]:List Nat).length=(mcK s L 0).thr.length) rfl;unfold mcX;refine h1.perm ?_;show _=(bk b 97 #[s.words,s.stripes,s.wide,s.threads,υ s.start,s.spins,s.writes,s.fuel,.pointer mb,.slice none 0 0,ι 0,ι 0,ι 0,υ 0,υ 0,υ 0,.bool false,ι 0,υ 0,.bool false,ι 0,.bool false]*(memH (shOf s) mb (doC (mem0 s) ⟨2,5,0,14,PLk.zero,PLk.zero⟩).2*(fact (([]:List Nat).length=(mcK s L 0).thr.length)*(row 102 1 (.slice none 0 0) 0 []*emp))))*F
 rw[Ac];ac_rfl
theorem Lf {ω w:World}{F:HP}{b:Nat}{s:PSt}{L:List (List (List PIns))}{k:Nat}{D:McD}(h:Sat ω w (mcX b (mcK s L k) D*F)):D.bs.length=k∧Sat ω w (row 102 1 (.slice D.tA k D.tc) k (D.bs.map pV)*(bk b 97 (mcC (mcK s L k) D)*(memH (shOf s) D.mb (mcK s L k).mem*(thAll s D.bs (mcK s L k).thr*F)))):=by
 obtain⟨h1,h2⟩:=Ad h;have e:(mcK s L k).thr.length=k:=by simp[mcK]
 rw[e] at h1;refine⟨h1,?_⟩;have h3:Sat ω w (mcRow (mcK s L k) D*(bk b 97 (mcC (mcK s L k) D)*(memH (shOf s) D.mb (mcK s L k).mem*(thAll s D.bs (mcK s L k).thr*F)))):=h2.perm (by show _*(_*(_*(_*_)))=_;ac_rfl)
 unfold mcRow at h3;rw[e] at h3;exact h3
theorem Pe:(prog.info? 102).map (fun i=>(i.zero,i.size,i.bytes))=some (some (.pointer none),1,8):=by kernel_rfl
theorem PQ (ω w:World)(F:HP)(r:PSt)(A:Option Addr)(c n:Nat)(L:List (List (List PIns)))(hn:L.length=n)(hn4:n≤4)(hL:∀l∈L,l.length≤6∧∀p∈l,p.length≤40∧okP p=true)(vs:List (Option Addr×Nat))(hvs:vs.length=L.length)(h:Sat ω w (jjX A c vs L*F)):
  Calls prog 10 #[.agg r,.slice A n c] w fun e w'=>∃b,e=.returned (.pointer (some ⟨b,0,none⟩))∧Sat ω w' (mcH b (PMc.new r L)*(jjX A c vs L*F)):=by
 obtain⟨s,hs⟩:∃s,({r with threads:=n}:PSt).held=s:=⟨_,rfl⟩
 have hkept:s.kept:=by rw[←hs];exact Ev _
 obtain⟨T,hT⟩:∃T,max 1 n=T:=⟨_,rfl⟩;have hthr:s.threads=T:=by rw[←hs];simp only[PSt.held];omega
 have hnew:mcK s L T=PMc.new r L:=by
  have:=SA r L (by omega)
  rw[hn,hs,hT] at this;exact this
 have hcap:(n:Int)≤(c:Int):=by
  have h9:=h;unfold jjX at h9
  have:=LX h9.assoc
  omega
 obtain⟨Y,hY⟩:∃Y:HP,Y=jjX A c vs L*F:=⟨_,rfl⟩;obtain⟨N,hN⟩:∃N,w.heap.size=N:=⟨_,rfl⟩;rw[←hY] at h ⊢;have HB0:Hid (Sat ω (w.alloc (.cells r 39)) (bk N 39 r*Y)):=h_ (by rw[←hN];exact h.new _ _)
 have HB1:Hid (Sat ω (w.alloc (.cells #[r.words,r.stripes,r.wide,n,υ r.start,r.spins,r.writes,r.fuel] 39)) (bk N 39 #[r.words,r.stripes,r.wide,n,υ r.start,r.spins,r.writes,r.fuel]*Y)):=h_ (by rw[←hN];exact h.new _ _)
 have HHE:Hid (Calls prog 32 #[.agg #[r.words,r.stripes,r.wide,n,υ r.start,r.spins,r.writes,r.fuel]] (w.alloc (.cells #[r.words,r.stripes,r.wide,n,υ r.start,r.spins,r.writes,r.fuel] 39)) fun e w'=>e=.returned (.agg s)∧Sat ω w' (bk N 39 #[r.words,r.stripes,r.wide,n,υ r.start,r.spins,r.writes,r.fuel]*Y)):=h_ (by
  have q:=hs;refine(MD _ (r.words:Int) (r.stripes:Int) (r.wide:Int) (n:Int) (r.start:Int) (r.spins:Int) (r.writes:Int) (r.fuel:Int) (s.words:Int) (s.stripes:Int) (s.wide:Int) (s.threads:Int) (s.start:Int) (s.spins:Int) (s.writes:Int) (s.fuel:Int) ?_ ?_ ?_ ?_ ?_ ?_ ?_ ?_).mono ?_;all_goals first
   |(rw[←hs];simp only[PSt.held];omega)
   |(rintro e w2 ⟨rfl,ho⟩;exact⟨rfl,HB1.o.nob ho⟩))
 have HB2:Hid (∀w1,Sat ω w1 (bk N 39 #[r.words,r.stripes,r.wide,n,υ r.start,r.spins,r.writes,r.fuel]*Y)→Sat ω ((((((((w1.setCell (κ N 0) s.words).setCell (κ N 1) s.stripes).setCell (κ N 2) s.wide).setCell (κ N 3) s.threads).setCell (κ N 4) (υ s.start)).setCell (κ N 5) s.spins).setCell (κ N 6) s.writes).setCell (κ N 7) s.fuel) (bk N 39 s*Y)):=h_ (fun w1 h1=>((((((((h1.put 0 s.words (cs':=#[s.words,r.stripes,r.wide,n,υ r.start,r.spins,r.writes,r.fuel]) rfl).put 1 s.stripes (cs':=#[s.words,s.stripes,r.wide,n,υ r.start,r.spins,r.writes,r.fuel]) rfl).put 2 s.wide (cs':=#[s.words,s.stripes,s.wide,n,υ r.start,r.spins,r.writes,r.fuel]) rfl).put 3 s.threads (cs':=#[s.words,s.stripes,s.wide,s.threads,υ r.start,r.spins,r.writes,r.fuel]) rfl).put 4 (υ s.start) (cs':=#[s.words,s.stripes,s.wide,s.threads,υ s.start,r.spins,r.writes,r.fuel]) rfl).put 5 s.spins (cs':=#[s.words,s.stripes,s.wide,s.threads,υ s.start,s.spins,r.writes,r.fuel]) rfl).put 6 s.writes (cs':=#[s.words,s.stripes,s.wide,s.threads,υ s.start,s.spins,s.writes,r.fuel]) rfl).put 7 s.fuel (cs':=s) rfl))
 have HBK:Hid (∀w1 cs,Sat ω w1 (bk N 39 cs*Y)→Blk w1 N 39 cs):=h_ (fun w1 cs h1=>h1.blk)
 have HMN:Hid (∀w1,Sat ω w1 (bk N 39 s*Y)→Calls prog 33 #[.agg (σ s)] w1 fun e w'=>∃mb,e=.returned (.pointer (some ⟨mb,0,none⟩))∧Sat ω w' (bk N 39 s*(memH (shOf s) mb (mem0 s)*Y))∧BoxS N s w'):=h_ (fun w1 h1=>by
  refine(Ry ω w1 _ s hkept h1).mono ?_;rintro e w2 ⟨mb,rfl,h2⟩;exact⟨mb,rfl,h2.swap,h2.swap.blk⟩)
 have HKE:=h_ hkept;have HNEW:=h_ hnew;have HTHR:=h_ hthr;have hmin:min (n:Int) 4=(n:Int):=by omega
 clear h hs hkept hnew hthr;go_enter func10,ntmps10;go_wp2_with (go_at_call 32;refine(HHE.o).mono ?_;rintro e w1 ⟨rfl,hs⟩;have kN:=HBK.o _ _ hs;have nf:=kN.frozen;have nl:=kN.lt;have n0:=kN.c 0;have n1:=kN.c 1;have n2:=kN.c 2;have n3:=kN.c 3;have n4:=kN.c 4;have n5:=kN.c 5;have n6:=kN.c 6;have n7:=kN.c 7;have HH2:=h_ (HB2.o _ hs);clear hs kN);generalize ((((((((w1.setCell N s.words).setCell (κ N 1) s.stripes).setCell (κ N 2) s.wide).setCell (κ N 3) s.threads).setCell (κ N 4) (υ s.start)).setCell (κ N 5) s.spins).setCell (κ N 6) s.writes).setCell (κ N 7) s.fuel)=wC at *
 have HD:=h_ (HH2.o.drewN 1);have HS0:BoxS N s wC.drew:=HBK.o _ _ HD.o;clear n0 n1 n2 n3 n4 n5 n6 n7 nf nl HB2 HHE HB0 HB1;refine gN (BoxS N s) HS0 fun hh0=>?_
 refine tH 0 ?_ rfl ?_ (tH 1 ?_ rfl ?_ (tH 2 ?_ rfl ?_ ?_));all_goals (try (
  intro w hSw;have jl:=hSw.lt;have jf:=hSw.frozen;have j0:=hSw.c 0;have j1:=hSw.c 1;have j2:=hSw.c 2;have j3:=hSw.c 3;have j4:=hSw.c 4;have j5:=hSw.c 5;have j6:=hSw.c 6;have j7:=hSw.c 7;try simp only[sP]
  go_simp<;>(try with_reducible rfl)))
 try simp only[sP]
 refine oH 3 rfl fun K hK=>?_
 go_simp;go_at_call 33;refine(HMN.o _ HD.o).mono ?_;rintro e wL ⟨mb,rfl,hs,hz⟩;have HL:=h_ hs;have ZL:=h_ hz;clear hs hz;(try go_wp2_with fail);refine hK.q ?_ fun hh1=>?_
 ·exact ZL.out
 clear hK K hh0;try simp only[sP]
 refine tH 4 ?_ rfl ?_ ?_;all_goals (try (
  intro w hSw;have jl:=hSw.lt;have jf:=hSw.frozen;have j0:=hSw.c 0;have j1:=hSw.c 1;have j2:=hSw.c 2;have j3:=hSw.c 3;have j4:=hSw.c 4;have j5:=hSw.c 5;have j6:=hSw.c 6;have j7:=hSw.c 7;go_simp<;>(try with_reducible rfl)))
 try simp only[sP]
 refine oH 5 rfl fun K hK=>?_
 go_simp;(try go_wp2_with fail);refine hK.q ?_ fun hh2=>?_
 ·exact(ZL.out:Blk _ _ _ _).alloc _
 clear hK K hh1;try simp only[sP]
 refine tH 6 ?_ rfl ?_ ?_;all_goals (try (
  intro w hSw;have jl:=hSw.lt;have jf:=hSw.frozen;have j0:=hSw.c 0;have j1:=hSw.c 1;have j2:=hSw.c 2;have j3:=hSw.c 3;have j4:=hSw.c 4;have j5:=hSw.c 5;have j6:=hSw.c 6;have j7:=hSw.c 7;go_simp<;>(try with_reducible rfl)))
 try simp only[sP]
 refine dN ?_;have HMX:Hid (Sat ω (wL.alloc (.cells #[s.words,s.stripes,s.wide,s.threads,υ s.start,s.spins,s.writes,s.fuel,.pointer mb,.slice none 0 0,ι 0,ι 0,ι 0,υ 0,υ 0,υ 0,.bool false,ι 0,υ 0,.bool false,ι 0,.bool false] 97)) (bk N 39 s*(bk wL.heap.size 97 #[s.words,s.stripes,s.wide,s.threads,υ s.start,s.spins,s.writes,s.fuel,.pointer mb,.slice none 0 0,ι 0,ι 0,ι 0,υ 0,υ 0,υ 0,.bool false,ι 0,υ 0,.bool false,ι 0,.bool false]*(memH (shOf s) mb (mem0 s)*Y)))):=h_ (HL.o.new _ _).swap;generalize (wL.alloc (.cells #[s.words,s.stripes,s.wide,s.threads,υ s.start,s.spins,s.writes,s.fuel,.pointer mb,.slice none 0 0,ι 0,ι 0,ι 0,υ 0,υ 0,υ 0,.bool false,ι 0,υ 0,.bool false,ι 0,.bool false] 97))=wM at *
 generalize wL.heap.size=b at *
 have kX:=HMX.o.blk;have xf:=kX.frozen;have xl:=kX.lt;obtain⟨W,hW⟩:∃W,s.words=W:=⟨_,rfl⟩;have x0:wM.cell? N=some (.int .i64 W):=by rw[←hW];exact kX.cell 0
 have hW1:32≤W:=by rw[←hW];exact HKE.o.w1
 have hW2:W≤256:=by rw[←hW];exact HKE.o.w2
 have HFR:Hid (Calls prog 34 #[W] wM fun e w'=>∃g,e=.returned (.slice (some ⟨g,0,none⟩) W W)∧Sat ω w' (bk g 22 (vU ((List.replicate W 0).set 5 14)).toArray*(bk N 39 s*(bk b 97 #[s.words,s.stripes,s.wide,s.threads,υ s.start,s.spins,s.writes,s.fuel,.pointer mb,.slice none 0 0,ι 0,ι 0,ι 0,υ 0,υ 0,υ 0,.bool false,ι 0,υ 0,.bool false,ι 0,.bool false]*(memH (shOf s) mb (mem0 s)*Y))))):=h_ (by
  exact Nh ω wM _ HMX.o W hW1 hW2)
 obtain⟨m1,hm1⟩:∃m1,(doC (mem0 s) ⟨2,5,0,14,PLk.zero,PLk.zero⟩).2=m1:=⟨_,rfl⟩;have HDO:Hid (∀k w1 P,k=5→Sat ω w1 (P*(memH (shOf s) mb (mem0 s)*Y))→Calls prog 35 #[.pointer mb,.agg #[ι 2,(k:Nat),υ 0,υ 14,υ 0,.bool false,ι 0,υ 0,.bool false,ι 0]] w1 fun e w'=>(∃v,e=.returned v)∧Sat ω w' (P*(memH (shOf s) mb m1*Y))):=h_ (fun k w1 P hk h9=>by
  subst hk;have hk2:=HKE.o.s2;have hk3:=HKE.o.t2;have hfit:(mem0 s).fits:=⟨by simp[mem0];omega,by simp[mem0];omega,by simp[mem0];omega⟩
  refine(PN ω w1 _ (shOf s) mb (mem0 s) h9.swap hfit ⟨2,5,0,14,PLk.zero,PLk.zero⟩ (by simp) (by simp)).mono ?_
  rintro e w2 ⟨rfl,h10⟩;rw[hm1] at h10;exact⟨⟨_,rfl⟩,h10.swap⟩)
 have HWW:=h_ hW;clear ZL HL HMN HD HS0 hW kX HMX;go_wp2_with (go_at_call 34;refine(HFR.o).mono ?_;rintro e w1 ⟨g,rfl,hs⟩;have HF:=h_ hs;clear hs);go_loopw [6,7,32] (fun _ _ c wr=>∃k:Nat,k≤W∧c=.int .i64 k∧Hid (Sat ω wr (bk g 22 (vU ((List.replicate W 0).set 5 14)).toArray*(bk N 39 s*(bk b 97 #[s.words,s.stripes,s.wide,s.threads,υ s.start,s.spins,s.writes,s.fuel,.pointer mb,.slice none 0 0,ι 0,ι 0,ι 0,υ 0,υ 0,υ 0,.bool false,ι 0,υ 0,.bool false,ι 0,.bool false]*(memH (shOf s) mb (if k≤5 then mem0 s else m1)*Y)))))) (fun _ _ c _=>W-(intOf c).toNat)
 case atStart=>exact⟨0,by omega,rfl,HF.o⟩
 case round =>
  obtain⟨k,hk,rfl,HA⟩:=hrel;by_cases hlt:k<W
  ·have kG:=HA.o.blk;have gf:=kG.frozen;have gl:=kG.lt;have kM:=HA.o.right.right.blk;have mf:=kM.frozen;have ml:=kM.lt;have q8:wr.cell? (κ b 8)=some (.pointer mb):=kM.cell 8;have gc:wr.cell? (κ g k)=some (.int .u64 ((((List.replicate W 0).set 5 14).getD k 0:Nat):Int)):=by
    have h9:=kG.cell k;rw[h9];have h10:=@Db ((List.replicate W 0).set 5 14) k (by simp;omega)
    simpa using h10
   by_cases hk5:k=5
   ·have e14:((List.replicate W 0).set 5 14).getD k 0=14:=by
     rw[hk5,gD,List.getElem?_set_self (by simp;omega)];rfl
    rw[e14] at gc;have gc2:wr.cell? (κ g k)=some (.int .u64 14):=gc;have HD5:Hid (∀w1,w1=wr→Calls prog 35 #[.pointer mb,.agg #[ι 2,(k:Nat),υ 0,υ 14,υ 0,.bool false,ι 0,υ 0,.bool false,ι 0]] w1 fun e w'=>(∃v,e=.returned v)∧Sat ω w' (bk g 22 (vU ((List.replicate W 0).set 5 14)).toArray*(bk N 39 s*(bk b 97 #[s.words,s.stripes,s.wide,s.threads,υ s.start,s.spins,s.writes,s.fuel,.pointer mb,.slice none 0 0,ι 0,ι 0,ι 0,υ 0,υ 0,υ 0,.bool false,ι 0,υ 0,.bool false,ι 0,.bool false]*(memH (shOf s) mb (if k+1≤5 then mem0 s else m1)*Y))))):=h_ (fun w1 e1=>by
     subst e1;have h9:=HA.o;rw[if_pos (by omega)] at h9
     rw[if_neg (by omega)]
     refine(HDO.o k w1 (bk g 22 (vU ((List.replicate W 0).set 5 14)).toArray*(bk N 39 s*bk b 97 #[s.words,s.stripes,s.wide,s.threads,υ s.start,s.spins,s.writes,s.fuel,.pointer mb,.slice none 0 0,ι 0,ι 0,ι 0,υ 0,υ 0,υ 0,.bool false,ι 0,υ 0,.bool false,ι 0,.bool false])) hk5 (h9.perm (by ac_rfl))).mono ?_
     rintro e w2 ⟨he,h10⟩;exact⟨he,h10.perm (by ac_rfl)⟩)
    clear gc kG kM hk5 e14;go_wp2_with (go_at_call 35;refine(HD5.o _ rfl).mono ?_;rintro e w2 ⟨⟨v9,rfl⟩,hs⟩;have HZ:=h_ hs;clear hs);exact⟨⟨k+1,by omega,by go_num,HZ.o⟩,by simp[intOf];omega⟩
   ·have e0:((List.replicate W 0).set 5 14).getD k 0=0:=by
     rw[gD,List.getElem?_set_ne (by omega),List.getElem?_replicate,if_pos hlt];rfl
    rw[e0] at gc;have gc2:wr.cell? (κ g k)=some (.int .u64 0):=gc;have HZ:Hid (Sat ω wr (bk g 22 (vU ((List.replicate W 0).set 5 14)).toArray*(bk N 39 s*(bk b 97 #[s.words,s.stripes,s.wide,s.threads,υ s.start,s.spins,s.writes,s.fuel,.pointer mb,.slice none 0 0,ι 0,ι 0,ι 0,υ 0,υ 0,υ 0,.bool false,ι 0,υ 0,.bool false,ι 0,.bool false]*(memH (shOf s) mb (if k+1≤5 then mem0 s else m1)*Y))))):=h_ (by
     have h9:=HA.o;have e:(if k+1≤5 then mem0 s else m1)=(if k≤5 then mem0 s else m1):=by
      by_cases h5:k<5
      ·rw[if_pos (by omega),if_pos (by omega)]
      ·rw[if_neg (by omega),if_neg (by omega)]
     rw[e];exact h9)
    clear gc kG kM hk5 e0;go_wp2;exact⟨⟨k+1,by omega,by go_num,HZ.o⟩,by simp[intOf];omega⟩
  ·have HM0:Hid (Sat ω wr (bk N 39 s*(mcX b (mcK s L 0) ⟨mb,none,0,[]⟩*Y))):=h_ (by
    have h9:=HA.o.right;rw[if_neg (by omega)] at h9
    rw[←hm1] at h9;exact(PR (h9.perm (by ac_rfl:_=bk b 97 #[s.words,s.stripes,s.wide,s.threads,υ s.start,s.spins,s.writes,s.fuel,.pointer mb,.slice none 0 0,ι 0,ι 0,ι 0,υ 0,υ 0,υ 0,.bool false,ι 0,υ 0,.bool false,ι 0,.bool false]*(memH (shOf s) mb (doC (mem0 s) ⟨2,5,0,14,PLk.zero,PLk.zero⟩).2*(bk N 39 s*Y)))):Sat ω wr _).swap)
   clear HA HDO HFR HF;have HJO:Hid (∀k,k<T→∃(l:List (List PIns)) (m:Nat) (B:Option Addr) (d:Nat),l.length=m∧L.getD k []=l∧(k<n→∀w1 G,Sat ω w1 (G*Y)→∃ga,A=some ⟨ga,0,none⟩∧ga<w1.heap.size∧w1.cell? (κ ga k)=some (.slice B m d))∧(¬k<n→B=none∧m=0∧d=0)∧∀w1 P,Sat ω w1 (P*Y)→Calls prog 36 #[k,.agg s,.slice B m d] w1 fun e w'=>∃tb,e=.returned (.pointer (some ⟨tb,0,none⟩))∧Sat ω w' (thH tb s (PTh.new k s l)*(P*Y))):=h_ (fun k hk=>by
    by_cases hkn:k<n
    ·obtain⟨B,d,R,h3,h4⟩:=IX vs L hvs k (by omega)
     obtain⟨l,hl⟩:∃l,L.getD k []=l:=⟨_,rfl⟩;have hpk:=hL (L.getD k []) (by rw[gD,List.getElem?_eq_getElem (by omega)];exact List.getElem_mem _)
     rw[hl] at h3 h4 hpk;refine⟨l,l.length,B,d,rfl,hl,fun _ w1 G h1=>?_,fun h=>absurd hkn h,fun w1 P h1=>?_⟩
     ·have h2:Sat ω w1 (row 29 1 (.slice A L.length c) L.length (jjV vs L)*(jjAll vs L*F*G)):=h1.perm (by rw[hY];unfold jjX;ac_rfl)
      exact h2.rowCell h3
     ·have h2:Sat ω w1 (jobsH B d l*(R*(P*(F*row 29 1 (.slice A L.length c) L.length (jjV vs L))))):=h1.perm (by rw[hY];unfold jjX;rw[h4];ac_rfl)
      refine(Ob ω w1 _ k s HKE.o (by rw[HTHR.o];omega) B d l hpk.1 hpk.2 h2).mono ?_
      rintro e w2 ⟨tb,rfl,h5⟩;refine⟨tb,rfl,h5.perm ?_⟩;rw[hY];unfold jjX;rw[h4];ac_rfl
    ·have hl:L.getD k []=[]:=by rw[gD,List.getElem?_eq_none (by omega)];rfl
     refine⟨[],0,none,0,rfl,hl,fun h=>absurd h hkn,fun _=>⟨rfl,rfl,rfl⟩,fun w1 P h1=>?_⟩
     refine(Ob ω w1 _ k s HKE.o (by rw[HTHR.o];omega) none 0 [] (Nat.zero_le _) (fun p hp=>by cases hp) (CH h1)).mono ?_
     rintro e w2 ⟨tb,rfl,h5⟩;exact⟨tb,rfl,h5.swap.right⟩)
   obtain⟨i0,hi0,hz⟩:=Option.map_eq_some_iff.1 Pe;simp only[Prod.mk.injEq] at hz;obtain⟨hz0,hz1,hz2⟩:=hz;have HI:=h_ hi0;have HZ0:=h_ hz0;have HZ1:=h_ hz1;have HZ2:=h_ hz2;have kX:=HM0.o.blk;have yf:=kX.frozen;have yl:=kX.lt;have y3:wr.cell? (κ N 3)=some (.int .i64 T):=by have h9:=kX.c 3;rw[HTHR.o] at h9;exact h9
   clear hi0 hz0 hz1 hz2 kX hY hL hvs;go_wp2;go_loopw [8,9,51] (fun _ _ c wr=>∃(k:Nat) (D:McD),k≤T∧c=.int .i64 k∧Hid (Sat ω wr (bk N 39 s*(mcX b (mcK s L k) D*Y)))) (fun _ _ c _=>T-(intOf c).toNat)
   case atStart=>exact⟨0,_,by omega,rfl,HM0.o⟩
   case round =>
    obtain⟨k2,D,hk2,rfl,HR⟩:=hrel;by_cases hlt2:k2<T
    ·obtain⟨l,m,B,d,hlm,hll,hJ,hN0,hC⟩:=HJO.o k2 hlt2;have HJ:=h_ fun h=>hJ h wr _ (HR.o.perm (by ac_rfl:_=(bk N 39 s*mcX b (mcK s L k2) D)*Y))
     have HN0:=h_ hN0;have HTD:=h_ (HR.o.drewN 1);have HNW:Hid (∀w1,Sat ω w1 (bk N 39 s*(mcX b (mcK s L k2) D*Y))→Calls prog 36 #[k2,.agg s,.slice B m d] w1 fun e w'=>∃tb,e=.returned (.pointer (some ⟨tb,0,none⟩))∧Sat ω w' (bk N 39 s*(thH tb s (PTh.new k2 s (L.getD k2 []))*(mcX b (mcK s L k2) D*Y)))∧BoxS N s w'∧b<w'.heap.size∧w'.cell? (κ b 9)=some (.slice D.tA k2 D.tc)):=h_ (fun w1 h1=>by
      refine(hC w1 (bk N 39 s*mcX b (mcK s L k2) D) (h1.perm (by ac_rfl))).mono ?_
      rintro e w2 ⟨tb,rfl,h2⟩;rw[hll];have h3:Sat ω w2 (bk N 39 s*(thH tb s (PTh.new k2 s l)*(mcX b (mcK s L k2) D*Y))):=h2.perm (by ac_rfl)
      have h4:=(Ad h3.right.right).2.blk;refine⟨tb,rfl,h3,h3.blk,h4.lt,?_⟩;rw[h4.cell 9];show some (Value.slice D.tA (mcK s L k2).thr.length D.tc)=_
      have e:(mcK s L k2).thr.length=k2:=by simp[mcK]
      rw[e])
     have k4:=(Ad HTD.o.right).2.blk;have lb:=k4.lt;have fb:=k4.frozen;have lbw:b<wr.heap.size:=lb;have q9:wr.drew.cell? (κ b 9)=some (.slice D.tA k2 D.tc):=by
      have h9:=k4.c 9;have e:(mcK s L k2).thr.length=k2:=by simp[mcK]
      rw[e] at h9;exact h9
     have HPJ:Hid (∀w1 tb,Sat ω w1 (bk N 39 s*(thH tb s (PTh.new k2 s (L.getD k2 []))*(mcX b (mcK s L k2) D*Y)))→Sat ω w1 (row 102 1 (.slice D.tA k2 D.tc) k2 (D.bs.map pV)*(bk b 97 (mcC (mcK s L k2) D)*(memH (shOf s) D.mb (mcK s L k2).mem*(thAll s D.bs (mcK s L k2).thr*(thH tb s (PTh.new k2 s (L.getD k2 []))*(bk N 39 s*Y))))))):=h_ (fun w1 tb h1=>(Lf (h1.perm (by ac_rfl:_=mcX b (mcK s L k2) D*(thH tb s (PTh.new k2 s (L.getD k2 []))*(bk N 39 s*Y))))).2)
     have hDl:=(Lf HTD.o.right).1;have HFJ:Hid (∀w1 A' c' tb,Sat ω w1 (row 102 1 (.slice A' (k2+1) c') (k2+1) (D.bs.map pV++[.pointer (some ⟨tb,0,none⟩)])*(bk b 97 (mcC (mcK s L k2) D)*(memH (shOf s) D.mb (mcK s L k2).mem*(thAll s D.bs (mcK s L k2).thr*(thH tb s (PTh.new k2 s (L.getD k2 []))*(bk N 39 s*Y))))))→BoxS N s w1∧Blk w1 b 97 (mcC (mcK s L k2) D)∧BoxS N s (w1.setCell (κ b 9) (.slice A' (k2+1) c'))∧∃D',Sat ω (w1.setCell (κ b 9) (.slice A' (k2+1) c')) (bk N 39 s*(mcX b (mcK s L (k2+1)) D'*Y))):=h_ (fun w1 A' c' tb h1=>by
      have h2:Sat ω w1 (bk N 39 s*(row 102 1 (.slice A' (k2+1) c') (k2+1) (D.bs.map pV++[.pointer (some ⟨tb,0,none⟩)])*(bk b 97 (mcC (mcK s L k2) D)*(memH (shOf s) D.mb (mcK s L k2).mem*(thAll s D.bs (mcK s L k2).thr*(thH tb s (PTh.new k2 s (L.getD k2 []))*Y)))))):=h1.perm (by ac_rfl)
      have h3:=(KM hDl h1).swap;exact⟨h2.blk,h1.right.blk,h3.blk,_,h3⟩)
     have HON:Hid (∀tb:Nat,∀u∈([Value.pointer tb]:List Value),u.oneCell'=true):=h_ (by intro tb u hu;simp at hu;subst hu;rfl)
     have HRD:Hid (∀(w1:World) (tb:Nat),Reads (w1.alloc (.cells #[.pointer tb] 102)) (w1.heap.size+1) 1 (some ⟨w1.heap.size,0,none⟩) 1 [.pointer tb]):=h_ (fun w1 tb=>by
      have h9:=Reads.of_blk (size:=1) (n:=1) (Blk.new w1 102 #[.pointer (some ⟨tb,0,none⟩)]) rfl;rw[World.size_alloc] at h9;exact h9)
     have HSB:BoxS N s wr.drew:=HTD.o.blk;clear hJ hN0 hC hlm hll k4 hDl;go_upto_if 57 with fail
     obtain⟨q,hq⟩:∃q,decide (k2<n)=q:=⟨_,rfl⟩;rw[hq];have HQ:=h_ hq;clear hq;go_cut [9] from 58 to 62 (fun c wx=>c=.slice B m d∧wr=wx)
     case first =>
      cases q
      ·obtain⟨rfl,rfl,rfl⟩:=HN0.o (by simpa using HQ.o)
       go_wp2_with fail;go_meet;exact⟨rfl,rfl⟩
      ·have hkn:k2<n:=by simpa using HQ.o
       obtain⟨ga,rfl,hga,r0⟩:=HJ.o hkn;go_wp2_with fail;go_meet;exact⟨rfl,rfl⟩
     case rest =>
      obtain⟨rfl,rfl⟩:=hcut;go_wp2;refine gN (BoxS N s) HSB fun hh0=>?_
      refine tH 0 ?_ rfl ?_ (tH 1 ?_ rfl ?_ (tH 5 ?_ rfl ?_ (tH 6 ?_ rfl ?_ (tH 7 ?_ rfl ?_ (tH 2 ?_ rfl ?_ (tH 3 ?_ rfl ?_ ?_))))));all_goals (try (
       intro w hSw;have jl:=hSw.lt;have jf:=hSw.frozen;have j0:=hSw.c 0;have j1:=hSw.c 1;have j2:=hSw.c 2;have j3:=hSw.c 3;have j4:=hSw.c 4;have j5:=hSw.c 5;have j6:=hSw.c 6;have j7:=hSw.c 7;try simp only[sP]
       go_simp<;>(try with_reducible rfl)))
      try simp only[sP]
      refine rH [4,8] ?_;refine cH rfl (fun K hK=>?_) ?_
      ·go_simp;(try go_wp2_with fail);refine hK.q ?_ fun hh1=>?_
       ·exact HSB
       clear hK K hh0;try simp only[sP]
       refine oH 8 rfl fun K hK=>?_
       go_simp;go_at_call 36;refine(HNW.o _ HTD.o).mono ?_;rintro e wA ⟨tb,rfl,hs,hz,lA,qA⟩;have HAt:=h_ hs;have ZA:=h_ hz;have lA1:b<wA.heap.size+1:=(by omega);have qA1:∀o,(wA.alloc o).cell? (κ b 9)=some (.slice D.tA k2 D.tc):=fun o=>(by rw[World.cell?_alloc_lt _ _ _ lA];exact qA);clear hs hz
       (try go_wp2_with fail);refine hK.q ?_ fun hh2=>?_
       ·exact ZA.out
       try simp only[sP]
       refine oH 9 rfl fun K hK=>?_
       go_simp;(try go_wp2_with fail);refine hK.q ?_ fun hh3=>?_
       ·exact(ZA.out:Blk _ _ _ _).alloc _
       try simp only[sP]
       refine oH 10 rfl fun K hK=>?_
       have HRW:=h_ (HPJ.o _ _ HAt.o);refine BI 91 102 1 8 underlying91 HI.o HZ0.o HZ1.o HZ2.o (HRW.o.junk _) (HRD.o _ _) (HON.o _) ?_;intro A' c' wB hs;obtain⟨k1,kk2,k3,D',h4⟩:=HFJ.o _ _ _ _ hs;have HK1:=h_ k1;have HK3:=h_ k3;have HYY:=h_ h4;have qf:=kk2.frozen;have ql:=kk2.lt;obtain⟨u9,q9b⟩:∃u,wB.cell? (κ b 9)=some u:=⟨_,kk2.cell 9⟩;(try go_wp2_with fail);refine hK.q ?_ fun hh4=>?_
       ·exact HK1.o
       try simp only[sP]
       refine tH 11 ?_ rfl ?_ (tH 12 ?_ rfl ?_ ?_);all_goals (try (
        intro w hSw;have jl:=hSw.lt;have jf:=hSw.frozen;have j0:=hSw.c 0;have j1:=hSw.c 1;have j2:=hSw.c 2;have j3:=hSw.c 3;have j4:=hSw.c 4;have j5:=hSw.c 5;have j6:=hSw.c 6;have j7:=hSw.c 7;try simp only[sP]
        go_simp<;>(try with_reducible rfl)))
       try simp only[sP]
       refine oH 13 rfl fun K hK=>?_
       go_simp;(try go_wp2_with fail);refine hK.q ?_ fun hh5=>?_
       ·exact HK3.o
       try simp only[sP]
       refine dN ?_;go_wp2;exact⟨⟨k2+1,D',by omega,by go_num,HYY.o⟩,by simp[intOf];omega⟩
      refine nH rfl fun K hK=>?_
      ·go_simp;go_at_call 36;refine(HNW.o _ HTD.o).mono ?_;rintro e wA ⟨tb,rfl,hs,hz,lA,qA⟩;have HAt:=h_ hs;have ZA:=h_ hz;have lA1:b<wA.heap.size+1:=(by omega);have qA1:∀o,(wA.alloc o).cell? (κ b 9)=some (.slice D.tA k2 D.tc):=fun o=>(by rw[World.cell?_alloc_lt _ _ _ lA];exact qA)
       (try go_wp2_with fail);refine hK.q ?_ fun hh1=>?_
       ·exact ZA.out
       try simp only[sP]
       refine rH [4,9] ?_;refine cH rfl (fun K hK=>?_) ?_
       ·go_simp;(try go_wp2_with fail);refine hK.q ?_ fun hh2=>?_
        ·exact ZA.out
        try simp only[sP]
        refine oH 9 rfl fun K hK=>?_
        go_simp;(try go_wp2_with fail);refine hK.q ?_ fun hh3=>?_
        ·exact(ZA.out:Blk _ _ _ _).alloc _
        try simp only[sP]
        refine oH 10 rfl fun K hK=>?_
        have HRW:=h_ (HPJ.o _ _ HAt.o);refine BI 91 102 1 8 underlying91 HI.o HZ0.o HZ1.o HZ2.o (HRW.o.junk _) (HRD.o _ _) (HON.o _) ?_;intro A' c' wB hs;obtain⟨k1,kk2,k3,D',h4⟩:=HFJ.o _ _ _ _ hs;have HK1:=h_ k1;have HK3:=h_ k3;have HYY:=h_ h4;have qf:=kk2.frozen;have ql:=kk2.lt;obtain⟨u9,q9b⟩:∃u,wB.cell? (κ b 9)=some u:=⟨_,kk2.cell 9⟩;(try go_wp2_with fail);refine hK.q ?_ fun hh4=>?_
        ·exact HK1.o
        try simp only[sP]
        refine tH 11 ?_ rfl ?_ (tH 12 ?_ rfl ?_ ?_);all_goals (try (
         intro w hSw;have jl:=hSw.lt;have jf:=hSw.frozen;have j0:=hSw.c 0;have j1:=hSw.c 1;have j2:=hSw.c 2;have j3:=hSw.c 3;have j4:=hSw.c 4;have j5:=hSw.c 5;have j6:=hSw.c 6;have j7:=hSw.c 7;try simp only[sP]
         go_simp<;>(try with_reducible rfl)))
        try simp only[sP]
        refine oH 13 rfl fun K hK=>?_
        go_simp;(try go_wp2_with fail);refine hK.q ?_ fun hh5=>?_
        ·exact HK3.o
        try simp only[sP]
        refine dN ?_;go_wp2;exact⟨⟨k2+1,D',by omega,by go_num,HYY.o⟩,by simp[intOf];omega⟩
       refine nH rfl fun K hK=>?_
       ·go_simp;(try go_wp2_with fail);refine hK.q ?_ fun hh2=>?_
        ·exact(ZA.out:Blk _ _ _ _).alloc _
        try simp only[sP]
        refine oH 4 rfl fun K hK=>?_
        go_simp;(try go_wp2_with fail);refine hK.q ?_ fun hh3=>?_
        ·exact(ZA.out:Blk _ _ _ _).alloc _
        try simp only[sP]
        refine oH 10 rfl fun K hK=>?_
        have HRW:=h_ (HPJ.o _ _ HAt.o);refine BI 91 102 1 8 underlying91 HI.o HZ0.o HZ1.o HZ2.o (HRW.o.junk _) (HRD.o _ _) (HON.o _) ?_;intro A' c' wB hs;obtain⟨k1,kk2,k3,D',h4⟩:=HFJ.o _ _ _ _ hs;have HK1:=h_ k1;have HK3:=h_ k3;have HYY:=h_ h4;have qf:=kk2.frozen;have ql:=kk2.lt;obtain⟨u9,q9b⟩:∃u,wB.cell? (κ b 9)=some u:=⟨_,kk2.cell 9⟩;(try go_wp2_with fail);refine hK.q ?_ fun hh4=>?_
        ·exact HK1.o
        try simp only[sP]
        refine tH 11 ?_ rfl ?_ (tH 12 ?_ rfl ?_ ?_);all_goals (try (
         intro w hSw;have jl:=hSw.lt;have jf:=hSw.frozen;have j0:=hSw.c 0;have j1:=hSw.c 1;have j2:=hSw.c 2;have j3:=hSw.c 3;have j4:=hSw.c 4;have j5:=hSw.c 5;have j6:=hSw.c 6;have j7:=hSw.c 7;try simp only[sP]
         go_simp<;>(try with_reducible rfl)))
        try simp only[sP]
        refine oH 13 rfl fun K hK=>?_
        go_simp;(try go_wp2_with fail);refine hK.q ?_ fun hh5=>?_
        ·exact HK3.o
        try simp only[sP]
        refine dN ?_;go_wp2;exact⟨⟨k2+1,D',by omega,by go_num,HYY.o⟩,by simp[intOf];omega⟩
    ·obtain rfl:k2=T:=by omega
     have HZ:Hid (Sat ω wr (mcH b (PMc.new r L)*Y)):=h_ (by rw[←HNEW.o];exact KN HR.o.right)
     go_wp2;go_ret;exact⟨b,rfl,HZ.o⟩
def ToShort (T:PTo):Prop:=T.reads.length≤1000∧T.cells.length≤1000
theorem Cm {x:PAt}(h:AtFine x)(t:PTh)(p:Nat):ToShort (x.toldOf t p):=by
 obtain⟨dep,hi⟩:=h.it;have h1:=hi.vf.ok.order;have h2:=hi.vf.facts;refine⟨?_,?_⟩
 ·show(PVw.known x.v).length≤1000
  unfold PVw.known;rw[List.length_map];omega
 ·show(PAt.cells x).length≤1000
  unfold PAt.cells;split
  ·have:=hi.vf.logs.cells.1;omega
  ·simp
theorem Au (t:PTh)(s:PSt):(t.again s).past=t.past:=by
 unfold PTh.again;simp only;split<;>rfl
theorem Ef (t:PTh)(s:PSt)(d:Nat):(t.pause s d).past=t.past:=by
 unfold PTh.pause;simp only;split
 ·rw[Au]
 ·rfl
theorem FQ (t:PTh)(s:PSt):(t.pauseOne s).past=t.past:=by
 unfold PTh.pauseOne;split
 ·rfl
 ·simp only;split
  ·rw[Au]
  ·rfl
theorem MP (t:PTh)(s:PSt)(k v:Nat):(t.wake s k v).past=t.past:=by
 unfold PTh.wake;split
 ·rfl
 ·split
  ·split
   ·rw[Au]
   ·split<;>rfl
  ·rfl
theorem Kh (t:PTh)(s:PSt)(x:PAt)(d p:Nat):(t.ended s x d p).past=t.past++[x.toldOf t p]:=by
 unfold PTh.ended;simp only;split
 ·split
  ·rfl
  ·rw[Ef]
 ·split
  ·split
   ·rw[Au]
   ·rfl
  ·unfold PTh.following;rw[Au]
theorem MY (t:PTh)(s:PSt)(a:PAns)(d p:Nat):(t.tell s a d p).past=t.past∨∃x t',t.state=1∧t.now=some x∧(t.tell s a d p).past=t.past++[(x.tell s a).toldOf t' p]:=by
 unfold PTh.tell;split
 ·rename_i h1;split
  ·exact .inl rfl
  ·rename_i x hx;simp only;split
   ·refine .inr ⟨x,{t with now:=some (x.tell s a),born:=if((x.tell s a).begun&&!x.begun)=true then p else t.born},h1,hx,?_⟩
    rw[Kh]
   ·exact .inl rfl
 ·unfold PTh.yield_;split
  ·exact .inl rfl
  ·rw[Ef];exact .inl rfl
 ·exact .inl rfl
structure PastOk (M:PMc):Prop where
 all:∀(i:Nat) (t:PTh),M.thr[i]?=some t→∀T∈t.past,ToShort T
theorem PastOk.pick {M:PMc}(h:PastOk M)(hM:McFine M)(i d:Nat):PastOk (M.pick i d):=by
 obtain⟨s0,hs0⟩:=hM.set;obtain⟨f1,f2⟩:=BW s0;rw[←hs0] at f1 f2;unfold PMc.pick;cases ht:M.thr[i]? with
 |none=>exact h
 |some t =>
  have hlt:i<M.thr.length:=(List.getElem?_eq_some_iff.1 ht).1;obtain⟨hth,hme⟩:=hM.thr i t ht;have put:∀u,(∀T∈u.past,ToShort T)→∀(k:Nat) (v:PTh),(M.thr.set i u)[k]?=some v→∀T∈v.past,ToShort T:=fun u hu k v hv=>by
   by_cases e:k=i
   ·subst e;rw[List.getElem?_set_self hlt] at hv;obtain rfl:=Option.some.inj hv;exact hu
   ·rw[List.getElem?_set_ne (Ne.symm e)] at hv;exact h.all k v hv
  simp only;by_cases hd:t.next.2=false
  ·rw[if_pos hd];exact⟨put _ (by rw[FQ];exact h.all i t ht)⟩
  rw[if_neg hd];have hd':t.next.2=true:=by simpa using hd
  have hte:∀T∈(t.tell M.s (doC M.mem t.next.1).1 d (M.picks+1)).past,ToShort T:=by
   intro T hT;have e0:(doC M.mem t.next.1).1=(doM M.mem t.next.1).1:=rfl;rcases MY t M.s (doC M.mem t.next.1).1 d (M.picks+1) with e|⟨x,t',h1,hx,e⟩
   ·rw[e] at hT;exact h.all i t ht T hT
   ·rw[e] at hT;simp only[List.mem_append,List.mem_singleton] at hT;rcases hT with hT|rfl
    ·exact h.all i t ht T hT
    ·have hn:t.next=x.next:=by unfold PTh.next;rw[h1,hx];rfl
     rw[hn] at hd' ⊢;exact Cm ((hth.now x hx).tell f1 hM.mem hd') _ _
  have hput:=put _ hte;split
  ·exact⟨hput⟩
  ·refine⟨fun k v hv=>?_⟩
   simp only[List.getElem?_mapIdx,Option.map_eq_some_iff] at hv;obtain⟨o,ho,rfl⟩:=hv;have q:=hput k o ho;split
   ·exact q
   ·rw[MP];exact q
theorem PastOk.new (s:PSt)(jobs:List (List (List PIns))):PastOk (PMc.new s jobs):=by
 refine⟨fun i t ht=>?_⟩
 simp only[PMc.new,List.getElem?_map,Option.map_eq_some_iff] at ht;obtain⟨k,hk,rfl⟩:=ht;unfold PTh.new;rw[Au];intro T hT;cases hT
end Go.Proofs.YtfodmgaliclhfaaGreatDoor
