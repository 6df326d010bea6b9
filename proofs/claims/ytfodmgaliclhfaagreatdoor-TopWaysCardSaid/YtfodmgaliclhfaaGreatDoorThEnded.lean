/- Lemmas. -/
import Derived.Test.YtfodmgaliclhfaaGreatDoorGThEnd
namespace Go.Proofs.YtfodmgaliclhfaaGreatDoor
set_option linter.unusedVariables false
set_option linter.unusedSimpArgs false
set_option maxRecDepth 100000
set_option maxHeartbeats 16000000
open Go.RowKit Go.Proofs.Tryz Iq Jq
structure EndOk (x:PAt):Prop where
 v:x.v.ok
 regs:x.run.regs.length=8
 out:x.run.out.length≤1000
 items:∀i∈x.run.out,i.ok
theorem Od [Inhabited PowO](ω w:World)(F:HP)(b:Nat)(s:PSt)(t:PTh)(D:ThD)(x:PAt)(hx:t.now=some x)(h:Sat ω w (thX b s t D t.job*(powH*F)))(hx2:EndOk x)(hs:s.kept)(hf:t.fit)(hjl:t.job<t.jobs.length)(hpl:t.past.length≤100000)(hrl:t.results.length≤100000)(htl:t.tries≤100000)(hcl:t.conflicts≤100000)(d p:Nat)(hd:d<256):
  Calls prog 64 #[.pointer b,.int .u8 d,p] w (Rets ω (powH*F) (.tuple #[]) (thH b s (t.ended s x d p))):=by
 obtain⟨fo,hfo⟩:∃fo,x.finOf=fo:=⟨_,rfl⟩;obtain⟨hv,hr,hl,hok⟩:=hx2;obtain⟨T,hT⟩:∃T,x.toldOf t p=T:=⟨_,rfl⟩;have HTO0:=h_ (fun w1 h1=>LS ω w1 F b s t D x hx h1 hv hr hl hok p)
 rw[hT] at HTO0;obtain⟨sl,hsl⟩:∃sl:ByteArray,(⟨T.slate.toArray⟩:ByteArray)=sl:=⟨_,rfl⟩;obtain⟨n1,hn1⟩:∃n,T.reads.length=n:=⟨_,rfl⟩;obtain⟨n2,hn2⟩:∃n,T.cells.length=n:=⟨_,rfl⟩;obtain⟨thread,h0t⟩:∃n,T.thread=n:=⟨_,rfl⟩;obtain⟨job,h1t⟩:∃n,T.job=n:=⟨_,rfl⟩;obtain⟨try_,h2t⟩:∃n,T.try_=n:=⟨_,rfl⟩;obtain⟨kind,h3t⟩:∃n,T.kind=n:=⟨_,rfl⟩;obtain⟨err,h4t⟩:∃n,T.err=n:=⟨_,rfl⟩;obtain⟨begin,h5t⟩:∃n,T.begin=n:=⟨_,rfl⟩;obtain⟨stamp,h6t⟩:∃n,T.stamp=n:=⟨_,rfl⟩;obtain⟨born,h7t⟩:∃n,T.born=n:=⟨_,rfl⟩;obtain⟨ended,h8t⟩:∃n,T.ended=n:=⟨_,rfl⟩;have HVT:Hid (∀A1 c1 A2 c2,toV (.slice A1 n1 c1,.slice A2 n2 c2) T=[.int .i64 thread,.int .i64 job,.int .i64 try_,.bool false,.int .i64 kind,.int .i64 err,.int .u64 begin,.int .u64 stamp,.int .i64 born,.int .i64 ended,.slice A1 n1 c1,.slice A2 n2 c2,.slice none 0 0,.string sl]):=h_ (fun A1 c1 A2 c2=>by unfold toV;rw[hsl,h0t,h1t,h2t,h3t,h4t,h5t,h6t,h7t,h8t])
 have HTO:Hid (∀w1,Sat ω w1 (thX b s t D t.job*(powH*F))→Calls prog 70 #[.pointer b,p] w1 fun e w'=>∃A1 c1 A2 c2,e=.returned (.agg #[thread,job,try_,.bool false,kind,err,υ begin,υ stamp,born,ended,.slice A1 n1 c1,.slice A2 n2 c2,.slice none 0 0,.string sl])∧Sat ω w' (thX b s t D t.job*(toH (.slice A1 n1 c1,.slice A2 n2 c2) T*(powH*F)))):=h_ (fun w1 h1=>by
  refine(HTO0.o w1 h1).mono ?_;rintro e w2 ⟨q,rfl,h3⟩;obtain⟨q1,q2⟩:=q;have h4:Sat ω w2 (row 54 2 q1 T.reads.length (vS T.reads)*(row 54 2 q2 T.cells.length (vS T.cells)*(thX b s t D t.job*(powH*F)))):=h3.perm (by unfold toH;ac_rfl)
  obtain⟨A1,c1,rfl⟩:=h4.rowForm;obtain⟨A2,c2,rfl⟩:=h4.right.rowForm;rw[hn1,hn2] at h3 ⊢;refine⟨A1,c1,A2,c2,?_,h3⟩;rw[HVT.o])
 obtain⟨n,hn⟩:∃n,t.past.length=n:=⟨_,rfl⟩;rw[hn] at hpl;obtain⟨hps,_⟩:=Co h;obtain⟨i0,hi0,hz⟩:=Option.map_eq_some_iff.1 Eu;simp only[Prod.mk.injEq] at hz;obtain⟨hz0,hz1,hz2⟩:=hz;have HI:=h_ hi0;have HZ0:=h_ hz0;have HZ1:=h_ hz1;have HZ2:=h_ hz2;have HON:Hid (∀A1 c1 A2 c2,∀u∈([.int .i64 thread,.int .i64 job,.int .i64 try_,.bool false,.int .i64 kind,.int .i64 err,.int .u64 begin,.int .u64 stamp,.int .i64 born,.int .i64 ended,.slice A1 n1 c1,.slice A2 n2 c2,.slice none 0 0,.string sl]:List Value),u.oneCell'=true):=h_ (by intro A1 c1 A2 c2 u hu;simp at hu;rcases hu with rfl|rfl|rfl|rfl|rfl|rfl|rfl|rfl|rfl|rfl|rfl|rfl|rfl|rfl<;>rfl)
 have HRD:Hid (∀(w1:World) A1 c1 A2 c2,Reads (w1.alloc (.cells #[thread,job,try_,.bool false,kind,err,υ begin,υ stamp,born,ended,.slice A1 n1 c1,.slice A2 n2 c2,.slice none 0 0,.string sl] 52)) (w1.heap.size+1) 14 (some ⟨w1.heap.size,0,none⟩) 1 [.int .i64 thread,.int .i64 job,.int .i64 try_,.bool false,.int .i64 kind,.int .i64 err,.int .u64 begin,.int .u64 stamp,.int .i64 born,.int .i64 ended,.slice A1 n1 c1,.slice A2 n2 c2,.slice none 0 0,.string sl]):=h_ (fun w1 A1 c1 A2 c2=>by
  have h9:=Reads.of_blk (size:=14) (n:=1) (Blk.new w1 52 #[thread,job,try_,.bool false,kind,err,υ begin,υ stamp,born,ended,.slice A1 n1 c1,.slice A2 n2 c2,.slice none 0 0,.string sl]) rfl;rw[World.size_alloc] at h9;exact h9)
 have HPA:Hid (∀w1 A1 c1 A2 c2,Sat ω w1 (thX b s t D t.job*(toH (.slice A1 n1 c1,.slice A2 n2 c2) T*(powH*F)))→Sat ω w1 (row 52 14 D.pv n (toVs D.ps t.past)*(pastG b s t D*(toH (.slice A1 n1 c1,.slice A2 n2 c2) T*(powH*F))))):=h_ (fun w1 A1 c1 A2 c2 h1=>by
  rw[←hn];exact(Co h1).2)
 have HBB:Hid (∀w1 R G,Sat ω w1 (R*(pastG b s t D*G))→Blk w1 b 138 (thC s t D t.job)):=h_ (fun w1 R G h1=>Ms h1)
 have HFI:Hid (∀w1 A c A1 c1 A2 c2,Sat ω w1 (row 52 14 (.slice A (n+1) c) (n+1) (toVs D.ps t.past++[.int .i64 thread,.int .i64 job,.int .i64 try_,.bool false,.int .i64 kind,.int .i64 err,.int .u64 begin,.int .u64 stamp,.int .i64 born,.int .i64 ended,.slice A1 n1 c1,.slice A2 n2 c2,.slice none 0 0,.string sl])*(pastG b s t D*(toH (.slice A1 n1 c1,.slice A2 n2 c2) T*(powH*F))))→∃D1:ThD,D1.nb=D.nb∧D1.lb=D.lb∧Sat ω (w1.setCell (κ b 19) (.slice A (n+1) c)) (thX b s {t with past:=t.past++[T]} D1 t.job*(powH*F))):=h_ (fun w1 A c A1 c1 A2 c2 h1=>by
  rw[←HVT.o A1 c1 A2 c2] at h1;exact⟨{D with pv:=.slice A (n+1) c,ps:=D.ps++[(.slice A1 n1 c1,.slice A2 n2 c2)]},rfl,rfl,MW hn hps h1⟩)
 have hb0:=AE h;have lt0:=hb0.lt;have HX0:Hid (Sat ω w.drew (thX b s t D t.job*(powH*F))):=h_ (h.drewN 1);have hb:=AE HX0.o;have kf:=hb.frozen;have kl:=hb.lt;have k19:w.drew.cell? (κ b 19)=some D.pv:=hb.cell 19;have k16:w.cell? (κ b 16)=some (.pointer D.nb):=by
  have e:nowV D.nb t.now=pV D.nb:=by rw[hx];rfl
  have:=hb0.cell 16
  rw[this];show some (nowV D.nb t.now)=_
  rw[e];rfl
 obtain⟨t1,ht1⟩:∃t1:PTh,t1={t with past:=t.past++[T]}:=⟨_,rfl⟩
 rw[←ht1] at HFI;have hj1:t.job=t1.job:=by rw[ht1]
 have HE:Hid (t.ended s x d p=(if fo=5 then(if 0≤x.byOf∧x.byOf<s.threads then {t1 with tries:=t1.tries+1,conflicts:=t1.conflicts+1,state:=2,by_:=x.byOf.toNat,yielding:=false} else({t1 with tries:=t1.tries+1,conflicts:=t1.conflicts+1}:PTh).pause s d)
  else if fo=3 then(if t1.alarmed then({t1 with tries:=t1.tries+1}:PTh).again s else {t1 with tries:=t1.tries+1,state:=4})
  else({t1 with tries:=t1.tries+1,results:=t1.results++[(⟨fo,x.errOf,x.slate,x.stamp⟩:PRe)]}:PTh).following s)):=h_ (by
  rw[ht1];unfold PTh.ended;simp only[hT,hfo])
 have HX1:Hid (t1.now=some x):=h_ (by rw[ht1];exact hx)
 have HF1:Hid (t1.fit):=h_ (by rw[ht1];exact⟨hf.job,hf.jobs,hf.prog⟩)
 have hjl1:t1.job<t1.jobs.length:=by rw[ht1];exact hjl
 have hrl1:t1.results.length≤100000:=by rw[ht1];exact hrl
 have htl1:t1.tries≤100000:=by rw[ht1];exact htl
 have hcl1:t1.conflicts≤100000:=by rw[ht1];exact hcl
 rw[hj1] at HFI;have HS:=h_ hs;have HFO:=h_ hfo;have HOK:Hid (EndOk x):=h_ ⟨hv,hr,hl,hok⟩;clear h hT hsl hn1 hn2 h0t h1t h2t h3t h4t h5t h6t h7t h8t HVT HTO0 hi0 hz0 hz1 hz2 hn hps hb0 hb hx ht1 hj1 hjl hrl htl hcl hf hs hfo hv hr hl hok;obtain⟨y0,hy0⟩:∃y0,t.ended s x d p=y0:=⟨_,rfl⟩;rw[hy0] at HE ⊢;clear hy0;go_enter func64,ntmps64;go_upto_region 1 with(fail)
 go_cut [] from 11 (fun wx=>∃D1:ThD,D1.nb=D.nb∧D1.lb=D.lb∧Hid (Sat ω wx (thX b s t1 D1 t1.job*(powH*F))))
 case first =>
  refine wp_region_any (by kernel_rfl) ?_
  try (change wpAny _ _ _ _ _ _ _ (World.drew _))
  refine tF 0 ?_ rfl ?_ (tF 1 ?_ rfl ?_ (tF 5 ?_ rfl ?_ (tF 6 ?_ rfl ?_ (tF 2 ?_ rfl ?_ (tF 3 ?_ rfl ?_ ?_)))));all_goals (try (
   intro w;go_simp<;>(try with_reducible rfl)))
  refine rF [4,7] ?_;refine AllReady.cons rfl (fun K hK=>?_) ?_
  ·go_simp;refine hK _ _ ?_;clear hK K;refine oF 7 rfl fun K hK=>?_
   go_simp;go_at_call 70;refine(HTO.o _ HX0.o).mono ?_;rintro e wA ⟨A1,c1,A2,c2,rfl,hs⟩;have HA:=h_ hs;have kbA:=AE hs;have jfA:=kbA.frozen;have jlA:=kbA.lt;have jA:wA.cell? (κ b 19)=some D.pv:=kbA.cell 19;have jlA1:b<wA.heap.size+1:=(by omega);have jA1:∀o,(wA.alloc o).cell? (κ b 19)=some D.pv:=fun o=>(kbA.alloc o).cell 19;clear hs kbA
   refine hK _ _ ?_;clear hK K;refine oF 8 rfl fun K hK=>?_
   go_simp;refine hK _ _ ?_;clear hK K;refine oF 9 rfl fun K hK=>?_
   have HRW:=h_ (HPA.o _ _ _ _ _ HA.o);refine BI 47 52 14 168 underlying47 HI.o HZ0.o HZ1.o HZ2.o (HRW.o.junk _) (HRD.o _ _ _ _ _) (HON.o _ _ _ _) ?_;intro A' c' wB hs;have HBx:=h_ hs;have kb:=HBB.o _ _ _ hs;have qf:=kb.frozen;have ql:=kb.lt;have q19:wB.cell? (κ b 19)=some D.pv:=kb.cell 19;clear hs kb;refine hK _ _ ?_;clear hK K;refine tF 10 ?_ rfl ?_ (tF 11 ?_ rfl ?_ ?_);all_goals (try (
    intro w;go_simp<;>(try with_reducible rfl)))
   refine oF 12 rfl fun K hK=>?_
   go_simp;refine hK _ _ ?_;clear hK K;refine dF ?_;go_wp2_with fail;go_meet;exact HFI.o _ _ _ _ _ _ _ HBx.o
  refine nF rfl fun K hK=>?_
  ·go_simp;go_at_call 70;refine(HTO.o _ HX0.o).mono ?_;rintro e wA ⟨A1,c1,A2,c2,rfl,hs⟩;have HA:=h_ hs;have kbA:=AE hs;have jfA:=kbA.frozen;have jlA:=kbA.lt;have jA:wA.cell? (κ b 19)=some D.pv:=kbA.cell 19;have jlA1:b<wA.heap.size+1:=(by omega);have jA1:∀o,(wA.alloc o).cell? (κ b 19)=some D.pv:=fun o=>(kbA.alloc o).cell 19;clear hs kbA
   refine hK _ _ ?_;clear hK K;refine rF [4,8] ?_;refine AllReady.cons rfl (fun K hK=>?_) ?_
   ·go_simp;refine hK _ _ ?_;clear hK K;refine oF 8 rfl fun K hK=>?_
    go_simp;refine hK _ _ ?_;clear hK K;refine oF 9 rfl fun K hK=>?_
    have HRW:=h_ (HPA.o _ _ _ _ _ HA.o);refine BI 47 52 14 168 underlying47 HI.o HZ0.o HZ1.o HZ2.o (HRW.o.junk _) (HRD.o _ _ _ _ _) (HON.o _ _ _ _) ?_;intro A' c' wB hs;have HBx:=h_ hs;have kb:=HBB.o _ _ _ hs;have qf:=kb.frozen;have ql:=kb.lt;have q19:wB.cell? (κ b 19)=some D.pv:=kb.cell 19;clear hs kb;refine hK _ _ ?_;clear hK K;refine tF 10 ?_ rfl ?_ (tF 11 ?_ rfl ?_ ?_);all_goals (try (
     intro w;go_simp<;>(try with_reducible rfl)))
    refine oF 12 rfl fun K hK=>?_
    go_simp;refine hK _ _ ?_;clear hK K;refine dF ?_;go_wp2_with fail;go_meet;exact HFI.o _ _ _ _ _ _ _ HBx.o
   refine nF rfl fun K hK=>?_
   ·go_simp;refine hK _ _ ?_;clear hK K;refine oF 4 rfl fun K hK=>?_
    go_simp;refine hK _ _ ?_;clear hK K;refine oF 9 rfl fun K hK=>?_
    have HRW:=h_ (HPA.o _ _ _ _ _ HA.o);refine BI 47 52 14 168 underlying47 HI.o HZ0.o HZ1.o HZ2.o (HRW.o.junk _) (HRD.o _ _ _ _ _) (HON.o _ _ _ _) ?_;intro A' c' wB hs;have HBx:=h_ hs;have kb:=HBB.o _ _ _ hs;have qf:=kb.frozen;have ql:=kb.lt;have q19:wB.cell? (κ b 19)=some D.pv:=kb.cell 19;clear hs kb;refine hK _ _ ?_;clear hK K;refine tF 10 ?_ rfl ?_ (tF 11 ?_ rfl ?_ ?_);all_goals (try (
     intro w;go_simp<;>(try with_reducible rfl)))
    refine oF 12 rfl fun K hK=>?_
    go_simp;refine hK _ _ ?_;clear hK K;refine dF ?_;go_wp2_with fail;go_meet;exact HFI.o _ _ _ _ _ _ _ HBx.o
 case rest =>
  obtain⟨D1,hnb,hlb,HC⟩:=hcut;have HGET:Hid (∀(w1:World) (tt:PTh) (DD:ThD),DD.nb=D.nb→tt.now=some x→Sat ω w1 (thX b s tt DD tt.job*(powH*F))→∃G,Sat ω w1 (atH D.nb s x*G)):=h_ (fun w1 tt DD h1 h2 h3=>by
   obtain⟨G,g1,_⟩:=Bp h3 h2;rw[h1] at g1;exact⟨G,g1⟩)
  have HBL:Hid (∀(w1:World) (tt:PTh) (DD:ThD),Sat ω w1 (thX b s tt DD tt.job*(powH*F))→Blk w1 b 138 (thC s tt DD tt.job)):=h_ (fun w1 tt DD h3=>AE h3)
  obtain⟨tr,htr⟩:∃tr,t1.tries=tr:=⟨_,rfl⟩;obtain⟨cf,hcf⟩:∃cf,t1.conflicts=cf:=⟨_,rfl⟩;rw[htr] at htl1;rw[hcf] at hcl1;have HC2:Hid (Sat ω (wc.setCell (κ b 14) (.int .i64 ((tr:Int)+1))) (thX b s {t1 with tries:=t1.tries+1} D1 t1.job*(powH*F))):=h_ (by
   have e:((tr:Int)+1)=((t1.tries+1:Nat):Int):=by rw[htr];simp
   rw[e];exact Af (t':={t1 with tries:=t1.tries+1}) HC.o 14 _ rfl rfl rfl rfl rfl)
  have kb:=AE HC.o;have q14:wc.cell? (κ b 14)=some (.int .i64 tr):=by rw[←htr];exact kb.cell 14
  have q15:wc.cell? (κ b 15)=some (.int .i64 cf):=by rw[←hcf];exact kb.cell 15
  have qf:=kb.frozen;have ql:=kb.lt;have q11:=kb.c 11;have q23:=kb.c 23;have q25:=kb.c 25;have q4:=kb.c 4;have q18:=kb.c 18;have q12:=kb.c 12;have HEND:Hid (∀(w1:World) (tt:PTh) (DD:ThD),DD.nb=D.nb→tt.now=some x→Sat ω w1 (thX b s tt DD tt.job*(powH*F))→Calls prog 63 #[.pointer D.nb] w1 fun e w'=>e=.returned fo∧w'=w1):=h_ (fun w1 tt DD h1 h2 h3=>by
   obtain⟨G,g1⟩:=HGET.o w1 tt DD h1 h2 h3;rw[←HFO.o];exact He ω w1 G D.nb s x g1)
  have HE1:=h_ (HEND.o _ {t1 with tries:=t1.tries+1} D1 hnb HX1.o HC2.o)
  clear kb;by_cases h5:fo=5
  ·have d5:((fo:Int)==5)=true:=by rw[h5];rfl
   have HC3:Hid (Sat ω ((wc.setCell (κ b 14) (.int .i64 ((tr:Int)+1))).setCell (κ b 15) (.int .i64 ((cf:Int)+1))) (thX b s {t1 with tries:=t1.tries+1,conflicts:=t1.conflicts+1} D1 t1.job*(powH*F))):=h_ (by
    have e:((cf:Int)+1)=((t1.conflicts+1:Nat):Int):=by rw[hcf];simp
    rw[e];exact Af (t':={t1 with tries:=t1.tries+1,conflicts:=t1.conflicts+1}) HC2.o 15 _ rfl rfl rfl rfl rfl)
   have HBYq:Hid (∀n,Calls prog 95 #[.pointer D.nb] (((wc.setCell (κ b 14) (.int .i64 ((tr:Int)+1))).setCell (κ b 15) (.int .i64 ((cf:Int)+1))).drewN n) fun e w'=>e=.returned x.byOf∧(((wc.setCell (κ b 14) (.int .i64 ((tr:Int)+1))).setCell (κ b 15) (.int .i64 ((cf:Int)+1))).drewN n)=w'):=h_ (fun n=>by
    obtain⟨G,g1⟩:=HGET.o _ {t1 with tries:=t1.tries+1,conflicts:=t1.conflicts+1} D1 hnb HX1.o HC3.o
    refine(Uo ω _ G D.nb s x (g1.drewN n)).mono ?_;rintro e w2 ⟨rfl,rfl⟩;exact⟨rfl,rfl⟩)
   obtain⟨bv,hbv⟩:∃bv,x.byOf=bv:=⟨_,rfl⟩;rw[hbv] at HBYq;obtain⟨m,hm⟩:∃m:Nat,s.threads=m:=⟨_,rfl⟩;rw[hm] at q4;have hm4:m≤4:=by rw[←hm];exact HS.o.t2
   by_cases hby:0≤bv∧bv<(m:Int)
   ·have hy:({t1 with tries:=t1.tries+1,conflicts:=t1.conflicts+1,state:=2,by_:=bv.toNat,yielding:=false}:PTh)=y0:=by
     rw[HE.o,if_pos h5,hbv,hm,if_pos hby]
    subst hy;obtain⟨h0b,h1b⟩:=hby;have HZ:Hid (∀n,Sat ω ((((((wc.setCell (κ b 14) (.int .i64 ((tr:Int)+1))).setCell (κ b 15) (.int .i64 ((cf:Int)+1))).drewN n).setCell (κ b 11) (ι 2)).setCell (κ b 23) bv).setCell (κ b 25) (.bool false)) (thH b s {t1 with tries:=t1.tries+1,conflicts:=t1.conflicts+1,state:=2,by_:=bv.toNat,yielding:=false}*(powH*F))):=h_ (fun n=>by
     have e:bv=((bv.toNat:Nat):Int):=by omega
     conv=>arg 2;rw[e]
     exact Ak (D:=D1) (Af (t':={t1 with tries:=t1.tries+1,conflicts:=t1.conflicts+1,state:=2,by_:=bv.toNat,yielding:=false}) (Af (t':={t1 with tries:=t1.tries+1,conflicts:=t1.conflicts+1,state:=2,by_:=bv.toNat}) (Af (t':={t1 with tries:=t1.tries+1,conflicts:=t1.conflicts+1,state:=2}) (HC3.o.drewN n) 11 (.int .i64 2) rfl rfl rfl rfl rfl) 23 _ rfl rfl rfl rfl rfl) 25 (.bool false) rfl rfl rfl rfl rfl))
    generalize ({t1 with tries:=t1.tries+1,conflicts:=t1.conflicts+1,state:=2,by_:=bv.toNat,yielding:=false}:PTh)=yy at *
    clear HC HC2 HC3 HE h5 HGET HBL HEND hbv hm HX1 HX0 htr hcf HTO HON HRD HPA HBB HFI HI HZ0 HZ1 HZ2;go_wp2_with (first
     |(go_at_call 63;refine(HE1.o).mono ?_;rintro e wE ⟨rfl,rfl⟩)
     |(go_at_call 95;refine(HBYq.o _).mono ?_;rintro e wE ⟨rfl,rfl⟩))
    go_quiet ((go_at_call 95;exact AV (HBYq.o _)));go_wp2_with (go_at_call 95;refine(HBYq.o _).mono ?_;rintro e wE ⟨rfl,rfl⟩);first|(go_ret;exact⟨rfl,HZ.o _⟩)|exact bodyPost_end (results_none rfl _ _ _) rfl ⟨rfl,HZ.o _⟩|exact bodyPost_ret (results_none rfl _ _ _) rfl ⟨rfl,HZ.o _⟩
   ·have hy:({t1 with tries:=t1.tries+1,conflicts:=t1.conflicts+1}:PTh).pause s d=y0:=by
     rw[HE.o,if_pos h5,hbv,hm,if_neg hby]
    subst hy;have HPA2:Hid (∀n,Calls prog 96 #[.pointer b,.int .u8 d] (((wc.setCell (κ b 14) (.int .i64 ((tr:Int)+1))).setCell (κ b 15) (.int .i64 ((cf:Int)+1))).drewN n) (Rets ω (powH*F) (.tuple #[]) (thH b s (({t1 with tries:=t1.tries+1,conflicts:=t1.conflicts+1}:PTh).pause s d)))):=h_ (fun n=>Hs ω _ (powH*F) b s {t1 with tries:=t1.tries+1,conflicts:=t1.conflicts+1} D1 (HC3.o.drewN n) HS.o ⟨HF1.o.job,HF1.o.jobs,HF1.o.prog⟩ (by simp only;omega) d hd)
    generalize ({t1 with tries:=t1.tries+1,conflicts:=t1.conflicts+1}:PTh).pause s d=yy at *
    have hd2:(bv<0)∨(0≤bv∧(m:Int)≤bv):=by omega
    clear HC HC2 HC3 HE h5 HGET HBL HEND hbv hm HX1 HX0 htr hcf HTO HON HRD HPA HBB HFI HI HZ0 HZ1 HZ2 hby;rcases hd2 with hneg|⟨hpos,hge⟩
    ·have hn0:decide ((0:Int)≤bv)=false:=by simp;omega
     have hn1:(0:Int)≤bv↔False:=by simp;omega
     go_wp2_with (go_at_call 63;refine(HE1.o).mono ?_;rintro e wE ⟨rfl,rfl⟩);go_quiet ((go_at_call 95;exact AV (HBYq.o _)));go_wp2_with (go_at_call 96;refine(HPA2.o _).mono ?_;rintro e wE ⟨rfl,hs⟩;have HZ:=h_ hs;clear hs);first|(go_ret;exact⟨rfl,HZ.o⟩)|exact bodyPost_end (results_none rfl _ _ _) rfl ⟨rfl,HZ.o⟩|exact bodyPost_ret (results_none rfl _ _ _) rfl ⟨rfl,HZ.o⟩
    ·have hn0:decide (bv<(m:Int))=false:=by simp;omega
     go_wp2_with (go_at_call 63;refine(HE1.o).mono ?_;rintro e wE ⟨rfl,rfl⟩);go_quiet ((go_at_call 95;exact AV (HBYq.o _)));go_wp2_with (go_at_call 96;refine(HPA2.o _).mono ?_;rintro e wE ⟨rfl,hs⟩;have HZ:=h_ hs;clear hs);first|(go_ret;exact⟨rfl,HZ.o⟩)|exact bodyPost_end (results_none rfl _ _ _) rfl ⟨rfl,HZ.o⟩|exact bodyPost_ret (results_none rfl _ _ _) rfl ⟨rfl,HZ.o⟩
  have d5:((fo:Int)==5)=false:=by rw[beq_eq_false_iff_ne];omega
  by_cases h3:fo=3
  ·have d3:((fo:Int)==3)=true:=by rw[h3];rfl
   obtain⟨al,hal⟩:∃al,t1.alarmed=al:=⟨_,rfl⟩;rw[hal] at q18;cases al
   ·have hy:({t1 with tries:=t1.tries+1,state:=4}:PTh)=y0:=by
     rw[HE.o,if_neg h5,if_pos h3,hal];rfl
    subst hy;have HZ:Hid (Sat ω ((wc.setCell (κ b 14) (.int .i64 ((tr:Int)+1))).setCell (κ b 11) (ι 4)) (thH b s {t1 with tries:=t1.tries+1,state:=4}*(powH*F))):=h_ (Ak (D:=D1) (Af (t':={t1 with tries:=t1.tries+1,state:=4}) HC2.o 11 (.int .i64 4) rfl rfl rfl rfl rfl))
    generalize ({t1 with tries:=t1.tries+1,state:=4}:PTh)=yy at *
    clear HC HC2 HE h5 h3 HGET HBL HEND HX1 HX0 htr hcf HTO HON HRD HPA HBB HFI HI HZ0 HZ1 HZ2 hal;go_wp2_with (go_at_call 63;refine(HE1.o).mono ?_;rintro e wE ⟨rfl,rfl⟩);first|(go_ret;exact⟨rfl,HZ.o⟩)|exact bodyPost_end (results_none rfl _ _ _) rfl ⟨rfl,HZ.o⟩|exact bodyPost_ret (results_none rfl _ _ _) rfl ⟨rfl,HZ.o⟩
   ·have hy:({t1 with tries:=t1.tries+1}:PTh).again s=y0:=by
     rw[HE.o,if_neg h5,if_pos h3,hal];rfl
    subst hy;have HAG:=h_ (Bo ω _ (powH*F) b s {t1 with tries:=t1.tries+1} D1 HC2.o HS.o ⟨HF1.o.job,HF1.o.jobs,HF1.o.prog⟩)
    generalize ({t1 with tries:=t1.tries+1}:PTh).again s=yy at *
    clear HC HC2 HE h5 h3 HGET HBL HEND HX1 HX0 htr hcf HTO HON HRD HPA HBB HFI HI HZ0 HZ1 HZ2 hal;go_wp2_with (first
     |(go_at_call 63;refine(HE1.o).mono ?_;rintro e wE ⟨rfl,rfl⟩)
     |(go_at_call 60;refine(HAG.o).mono ?_;rintro e wE ⟨rfl,hs⟩;have HZ:=h_ hs;clear hs))
    first|(go_ret;exact⟨rfl,HZ.o⟩)|exact bodyPost_end (results_none rfl _ _ _) rfl ⟨rfl,HZ.o⟩|exact bodyPost_ret (results_none rfl _ _ _) rfl ⟨rfl,HZ.o⟩
  have d3:((fo:Int)==3)=false:=by rw[beq_eq_false_iff_ne];omega
  obtain⟨eo,heo⟩:∃eo,x.errOf=eo:=⟨_,rfl⟩;obtain⟨sl2,hsl2⟩:∃sl2:ByteArray,(⟨x.slate.toArray⟩:ByteArray)=sl2:=⟨_,rfl⟩;obtain⟨stp,hstp⟩:∃stp,x.stamp=stp:=⟨_,rfl⟩;obtain⟨nr,hnr⟩:∃nr,t1.results.length=nr:=⟨_,rfl⟩;rw[hnr] at hrl1;obtain⟨t3,ht3⟩:∃t3:PTh,t3={t1 with tries:=t1.tries+1,results:=t1.results++[(⟨fo,x.errOf,x.slate,x.stamp⟩:PRe)]}:=⟨_,rfl⟩
  have hy:t3.following s=y0:=by
   rw[HE.o,if_neg h5,if_neg h3,ht3]
  subst hy;obtain⟨t2,ht2⟩:∃t2:PTh,t2={t1 with tries:=t1.tries+1}:=⟨_,rfl⟩
  have HC2':Hid (Sat ω (wc.setCell (κ b 14) (.int .i64 ((tr:Int)+1))) (thX b s t2 D1 t2.job*(powH*F))):=h_ (by rw[ht2];exact HC2.o)
  have h2now:t2.now=some x:=by rw[ht2];exact HX1.o
  have h3now:t3.now=some x:=by rw[ht3];exact HX1.o
  have h3fit:({t3 with job:=t3.job+1,tries:=0,conflicts:=0}:PTh).fit:=by
   rw[ht3];exact⟨hjl1,HF1.o.jobs,HF1.o.prog⟩
  have HERR:Hid (∀(w1:World),Sat ω w1 (thX b s t2 D1 t2.job*(powH*F))→Calls prog 98 #[.pointer D.nb] w1 fun e w'=>e=.returned eo∧w'=w1):=h_ (fun w1 h9=>by
   obtain⟨G,g1⟩:=HGET.o w1 t2 D1 hnb h2now h9;rw[←heo];exact RK ω w1 G D.nb s x g1)
  have HEN:Hid (∀(w1:World),Sat ω w1 (thX b s t2 D1 t2.job*(powH*F))→Calls prog 63 #[.pointer D.nb] w1 fun e w'=>e=.returned fo∧w'=w1):=h_ (fun w1 h9=>HEND.o w1 t2 D1 hnb h2now h9)
  have HSTA:Hid (∀(w1:World) (tt:PTh) (DD:ThD),DD.nb=D.nb→tt.now=some x→Sat ω w1 (thX b s tt DD tt.job*(powH*F))→Calls prog 100 #[.pointer D.nb] w1 fun e w'=>e=.returned (υ stp)∧w'=w1):=h_ (fun w1 tt DD h7 h8 h9=>by
   obtain⟨G,g1⟩:=HGET.o w1 tt DD h7 h8 h9;rw[←hstp];exact JL ω w1 G D.nb s x g1)
  have HFRE:Hid (∀(w1:World) (tt:PTh) (DD:ThD),DD.nb=D.nb→tt.now=some x→Sat ω w1 (thX b s tt DD tt.job*(powH*F))→Calls prog 102 #[.pointer D.nb] w1 fun e w'=>e=.returned (.slice none 0 0)∧Sat ω w' (thX b s tt DD tt.job*(powH*F))):=h_ (fun w1 tt DD h7 h8 h9=>by
   obtain⟨G,g1⟩:=HGET.o w1 tt DD h7 h8 h9;refine(JP ω w1 G D.nb s x g1 HOK.o.v).mono ?_;rintro e w2 ⟨rfl,h10⟩;exact⟨rfl,h9.nob h10⟩)
  have HSLA:Hid (∀(w1:World),Sat ω w1 (thX b s t2 D1 t2.job*(powH*F))→Calls prog 99 #[.pointer D.nb] w1 fun e w'=>e=.returned (.string sl2)∧Sat ω w' (thX b s t2 D1 t2.job*(powH*F))):=h_ (fun w1 h9=>by
   have h10:Sat ω w1 (atH D.nb s x*(powH*(bk b 138 (thC s t2 D1 t2.job)*(thT t2 D1*F)))):=h9.perm (by unfold thX;rw[h2now,hnb];show(_*(atH D.nb s x*_))*_=_;ac_rfl)
   refine(JM ω w1 _ D.nb s x h10 HOK.o.regs HOK.o.out HOK.o.items).mono ?_;rintro e w2 ⟨rfl,h11⟩;rw[hsl2];exact⟨rfl,h11.perm (by unfold thX;rw[h2now,hnb];show _=(_*(atH D.nb s x*_))*_;ac_rfl)⟩)
  obtain⟨i1,hi1,hz⟩:=Option.map_eq_some_iff.1 Pf;simp only[Prod.mk.injEq] at hz;obtain⟨hz0,hz1,hz2⟩:=hz;have HI1:=h_ hi1;have HY0:=h_ hz0;have HY1:=h_ hz1;have HY2:=h_ hz2;have HON1:Hid (∀u∈([.int .i64 fo,.int .i64 eo,.string sl2,.int .u64 stp]:List Value),u.oneCell'=true):=h_ (by intro u hu;simp at hu;rcases hu with rfl|rfl|rfl|rfl<;>rfl)
  have HRD1:Hid (∀(w1:World),Reads (w1.alloc (.cells #[fo,eo,.string sl2,υ stp] 66)) (w1.heap.size+1) 4 (some ⟨w1.heap.size,0,none⟩) 1 [.int .i64 fo,.int .i64 eo,.string sl2,.int .u64 stp]):=h_ (fun w1=>by
   have h9:=Reads.of_blk (size:=4) (n:=1) (Blk.new w1 66 #[fo,eo,.string sl2,υ stp]) rfl;rw[World.size_alloc] at h9;exact h9)
  have HRES:Hid (∀w1,Sat ω w1 (thX b s t2 D1 t2.job*(powH*F))→Sat ω w1 (row 66 4 D1.rv nr (t1.results.flatMap reV)*(resG b s t2 D1*(powH*F)))):=h_ (fun w1 h9=>by
   have h10:=LT h9;rw[ht2] at h10 ⊢;rw[←hnr];exact h10)
  have HB20:Hid (∀w1,Sat ω w1 (thX b s t2 D1 t2.job*(powH*F))→Blk w1 b 138 (thC s t2 D1 t2.job)):=h_ (fun w1 h9=>AE h9)
  have HG20:Hid (∀w1 R G,Sat ω w1 (R*(resG b s t2 D1*G))→Blk w1 b 138 (thC s t2 D1 t2.job)):=h_ (fun w1 R G h9=>Oy h9)
  have HF20:Hid (∀w1 A c,Sat ω w1 (row 66 4 (.slice A (nr+1) c) (nr+1) (t1.results.flatMap reV++[.int .i64 fo,.int .i64 eo,.string sl2,.int .u64 stp])*(resG b s t2 D1*(powH*F)))→∃D2:ThD,D2.nb=D.nb∧D2.lb=D.lb∧Sat ω (w1.setCell (κ b 20) (.slice A (nr+1) c)) (thX b s t3 D2 t3.job*(powH*F))):=h_ (fun w1 A c h9=>by
   refine⟨{D1 with rv:=.slice A (nr+1) c},hnb,hlb,?_⟩
   have e9:([.int .i64 fo,.int .i64 eo,.string sl2,.int .u64 stp]:List Value)=reV (⟨fo,x.errOf,x.slate,x.stamp⟩:PRe):=by
    unfold reV;rw[←heo,←hsl2,←hstp]
   rw[e9] at h9;subst ht2;subst ht3;exact MV (t:={t1 with tries:=t1.tries+1}) (r:=(⟨fo,x.errOf,x.slate,x.stamp⟩:PRe)) (n:=nr) hnr h9)
  have HOV:Hid (∀w1 (D2:ThD),Sat ω w1 (thX b s t3 D2 t3.job*(powH*F))→Calls prog 103 #[.pointer b] w1 (Rets ω (powH*F) (.tuple #[]) (thH b s (t3.following s)))):=h_ (fun w1 D2 h9=>GV ω w1 (powH*F) b s t3 D2 h9 HS.o h3fit)
  have HN3:=h_ h3now;have HN2:=h_ h2now;clear HC HC2 HE h5 h3 HGET HEND HX1 HX0 htr hcf HTO HON HRD HPA HBB HFI HI HZ0 HZ1 HZ2 heo hsl2 hstp hnr ht3 ht2 h2now h3now h3fit hi1 hz0 hz1 hz2;generalize t3.following s=yy at *
  go_upto_region 3 with(go_at_call 63;refine(HE1.o).mono ?_;rintro e wE ⟨rfl,rfl⟩)
  generalize (wc.setCell (κ b 14) (.int .i64 ((tr:Int)+1)))=wD at *
  have HD:Hid (Sat ω wD.drew (thX b s t2 D1 t2.job*(powH*F))):=h_ (HC2'.out.drewN 1);have kbD:=HB20.o _ HD.o;have jfD:=kbD.frozen;have jlD:=kbD.lt;have jD:wD.drew.cell? (κ b 20)=some D1.rv:=kbD.cell 20;clear q14 q15 qf ql q11 q23 q25 q4 q18 q12 kbD kf kl k19 k16 lt0;go_cut [] from 11 (fun wx=>∃D2:ThD,D2.nb=D.nb∧D2.lb=D.lb∧Hid (Sat ω wx (thX b s t3 D2 t3.job*(powH*F))))
  case first =>
   refine wp_region_any (by kernel_rfl) ?_
   try (change wpAny _ _ _ _ _ _ _ (World.drew _))
   refine tF 0 ?_ rfl ?_ (tF 1 ?_ rfl ?_ (tF 5 ?_ rfl ?_ (tF 7 ?_ rfl ?_ (tF 9 ?_ rfl ?_ (tF 11 ?_ rfl ?_ (tF 2 ?_ rfl ?_ (tF 3 ?_ rfl ?_ ?_)))))));all_goals (try (
    intro w;go_simp<;>(try with_reducible rfl)))
   refine rF [4,6] ?_;refine AllReady.cons rfl (fun K hK=>?_) ?_
   ·go_simp;refine hK _ _ ?_;clear hK K;refine oF 6 rfl fun K hK=>?_
    go_simp;go_at_call 63;refine(HEN.o _ HD.o).mono ?_;rintro e wA ⟨rfl,rfl⟩;refine hK _ _ ?_;clear hK K;refine oF 8 rfl fun K hK=>?_
    go_simp;go_at_call 98;refine(HERR.o _ HD.o).mono ?_;rintro e wA ⟨rfl,rfl⟩;refine hK _ _ ?_;clear hK K;refine oF 10 rfl fun K hK=>?_
    go_simp;go_at_call 99;refine(HSLA.o _ HD.o).mono ?_;rintro e wS ⟨rfl,hs⟩;have HSl:=h_ hs;have kbS:=HB20.o _ hs;have jfS:=kbS.frozen;have jlS:=kbS.lt;have jlS1:b<wS.heap.size+1:=(by omega);have jS:wS.cell? (κ b 20)=some D1.rv:=kbS.cell 20;have jS1:∀o,(wS.alloc o).cell? (κ b 20)=some D1.rv:=fun o=>(kbS.alloc o).cell 20;clear hs kbS
    refine hK _ _ ?_;clear hK K;refine oF 12 rfl fun K hK=>?_
    go_simp;go_at_call 100;refine(HSTA.o _ t2 D1 hnb HN2.o HSl.o).mono ?_;rintro e wA ⟨rfl,rfl⟩;refine hK _ _ ?_;clear hK K;refine tF 13 ?_ rfl ?_ ?_;all_goals (try (
     intro w;go_simp<;>(try with_reducible rfl)))
    refine oF 14 rfl fun K hK=>?_
    go_simp;refine hK _ _ ?_;clear hK K;refine oF 15 rfl fun K hK=>?_
    have HRW:=h_ (HRES.o _ HSl.o);refine BI 61 66 4 40 underlying61 HI1.o HY0.o HY1.o HY2.o (HRW.o.junk _) (HRD1.o _) HON1.o ?_;intro A' c' wB hs;have HBx:=h_ hs;have kb:=HG20.o _ _ _ hs;have qf:=kb.frozen;have ql:=kb.lt;have q20:wB.cell? (κ b 20)=some D1.rv:=kb.cell 20;clear hs kb;refine hK _ _ ?_;clear hK K;refine tF 16 ?_ rfl ?_ (tF 17 ?_ rfl ?_ ?_);all_goals (try (
     intro w;go_simp<;>(try with_reducible rfl)))
    refine oF 18 rfl fun K hK=>?_
    go_simp;refine hK _ _ ?_;clear hK K;refine dF ?_;go_wp2_with fail;go_meet;exact HF20.o _ _ _ HBx.o
   refine nF rfl fun K hK=>?_
   ·go_simp;go_at_call 63;refine(HEN.o _ HD.o).mono ?_;rintro e wA ⟨rfl,rfl⟩;refine hK _ _ ?_;clear hK K;refine rF [4,8] ?_;refine AllReady.cons rfl (fun K hK=>?_) ?_
    ·go_simp;refine hK _ _ ?_;clear hK K;refine oF 8 rfl fun K hK=>?_
     go_simp;go_at_call 98;refine(HERR.o _ HD.o).mono ?_;rintro e wA ⟨rfl,rfl⟩;refine hK _ _ ?_;clear hK K;refine oF 10 rfl fun K hK=>?_
     go_simp;go_at_call 99;refine(HSLA.o _ HD.o).mono ?_;rintro e wS ⟨rfl,hs⟩;have HSl:=h_ hs;have kbS:=HB20.o _ hs;have jfS:=kbS.frozen;have jlS:=kbS.lt;have jlS1:b<wS.heap.size+1:=(by omega);have jS:wS.cell? (κ b 20)=some D1.rv:=kbS.cell 20;have jS1:∀o,(wS.alloc o).cell? (κ b 20)=some D1.rv:=fun o=>(kbS.alloc o).cell 20;clear hs kbS
     refine hK _ _ ?_;clear hK K;refine oF 12 rfl fun K hK=>?_
     go_simp;go_at_call 100;refine(HSTA.o _ t2 D1 hnb HN2.o HSl.o).mono ?_;rintro e wA ⟨rfl,rfl⟩;refine hK _ _ ?_;clear hK K;refine tF 13 ?_ rfl ?_ ?_;all_goals (try (
      intro w;go_simp<;>(try with_reducible rfl)))
     refine oF 14 rfl fun K hK=>?_
     go_simp;refine hK _ _ ?_;clear hK K;refine oF 15 rfl fun K hK=>?_
     have HRW:=h_ (HRES.o _ HSl.o);refine BI 61 66 4 40 underlying61 HI1.o HY0.o HY1.o HY2.o (HRW.o.junk _) (HRD1.o _) HON1.o ?_;intro A' c' wB hs;have HBx:=h_ hs;have kb:=HG20.o _ _ _ hs;have qf:=kb.frozen;have ql:=kb.lt;have q20:wB.cell? (κ b 20)=some D1.rv:=kb.cell 20;clear hs kb;refine hK _ _ ?_;clear hK K;refine tF 16 ?_ rfl ?_ (tF 17 ?_ rfl ?_ ?_);all_goals (try (
      intro w;go_simp<;>(try with_reducible rfl)))
     refine oF 18 rfl fun K hK=>?_
     go_simp;refine hK _ _ ?_;clear hK K;refine dF ?_;go_wp2_with fail;go_meet;exact HF20.o _ _ _ HBx.o
    refine nF rfl fun K hK=>?_
    ·go_simp;go_at_call 98;refine(HERR.o _ HD.o).mono ?_;rintro e wA ⟨rfl,rfl⟩;refine hK _ _ ?_;clear hK K;refine rF [4,10] ?_;refine AllReady.cons rfl (fun K hK=>?_) ?_
     ·go_simp;refine hK _ _ ?_;clear hK K;refine oF 10 rfl fun K hK=>?_
      go_simp;go_at_call 99;refine(HSLA.o _ HD.o).mono ?_;rintro e wS ⟨rfl,hs⟩;have HSl:=h_ hs;have kbS:=HB20.o _ hs;have jfS:=kbS.frozen;have jlS:=kbS.lt;have jlS1:b<wS.heap.size+1:=(by omega);have jS:wS.cell? (κ b 20)=some D1.rv:=kbS.cell 20;have jS1:∀o,(wS.alloc o).cell? (κ b 20)=some D1.rv:=fun o=>(kbS.alloc o).cell 20;clear hs kbS
      refine hK _ _ ?_;clear hK K;refine oF 12 rfl fun K hK=>?_
      go_simp;go_at_call 100;refine(HSTA.o _ t2 D1 hnb HN2.o HSl.o).mono ?_;rintro e wA ⟨rfl,rfl⟩;refine hK _ _ ?_;clear hK K;refine tF 13 ?_ rfl ?_ ?_;all_goals (try (
       intro w;go_simp<;>(try with_reducible rfl)))
      refine oF 14 rfl fun K hK=>?_
      go_simp;refine hK _ _ ?_;clear hK K;refine oF 15 rfl fun K hK=>?_
      have HRW:=h_ (HRES.o _ HSl.o);refine BI 61 66 4 40 underlying61 HI1.o HY0.o HY1.o HY2.o (HRW.o.junk _) (HRD1.o _) HON1.o ?_;intro A' c' wB hs;have HBx:=h_ hs;have kb:=HG20.o _ _ _ hs;have qf:=kb.frozen;have ql:=kb.lt;have q20:wB.cell? (κ b 20)=some D1.rv:=kb.cell 20;clear hs kb;refine hK _ _ ?_;clear hK K;refine tF 16 ?_ rfl ?_ (tF 17 ?_ rfl ?_ ?_);all_goals (try (
       intro w;go_simp<;>(try with_reducible rfl)))
      refine oF 18 rfl fun K hK=>?_
      go_simp;refine hK _ _ ?_;clear hK K;refine dF ?_;go_wp2_with fail;go_meet;exact HF20.o _ _ _ HBx.o
     refine nF rfl fun K hK=>?_
     ·go_simp;go_at_call 99;refine(HSLA.o _ HD.o).mono ?_;rintro e wS ⟨rfl,hs⟩;have HSl:=h_ hs;have kbS:=HB20.o _ hs;have jfS:=kbS.frozen;have jlS:=kbS.lt;have jlS1:b<wS.heap.size+1:=(by omega);have jS:wS.cell? (κ b 20)=some D1.rv:=kbS.cell 20;have jS1:∀o,(wS.alloc o).cell? (κ b 20)=some D1.rv:=fun o=>(kbS.alloc o).cell 20;clear hs kbS
      refine hK _ _ ?_;clear hK K;refine rF [4,12] ?_;refine AllReady.cons rfl (fun K hK=>?_) ?_
      ·go_simp;refine hK _ _ ?_;clear hK K;refine oF 12 rfl fun K hK=>?_
       go_simp;go_at_call 100;refine(HSTA.o _ t2 D1 hnb HN2.o HSl.o).mono ?_;rintro e wA ⟨rfl,rfl⟩;refine hK _ _ ?_;clear hK K;refine tF 13 ?_ rfl ?_ ?_;all_goals (try (
        intro w;go_simp<;>(try with_reducible rfl)))
       refine oF 14 rfl fun K hK=>?_
       go_simp;refine hK _ _ ?_;clear hK K;refine oF 15 rfl fun K hK=>?_
       have HRW:=h_ (HRES.o _ HSl.o);refine BI 61 66 4 40 underlying61 HI1.o HY0.o HY1.o HY2.o (HRW.o.junk _) (HRD1.o _) HON1.o ?_;intro A' c' wB hs;have HBx:=h_ hs;have kb:=HG20.o _ _ _ hs;have qf:=kb.frozen;have ql:=kb.lt;have q20:wB.cell? (κ b 20)=some D1.rv:=kb.cell 20;clear hs kb;refine hK _ _ ?_;clear hK K;refine tF 16 ?_ rfl ?_ (tF 17 ?_ rfl ?_ ?_);all_goals (try (
        intro w;go_simp<;>(try with_reducible rfl)))
       refine oF 18 rfl fun K hK=>?_
       go_simp;refine hK _ _ ?_;clear hK K;refine dF ?_;go_wp2_with fail;go_meet;exact HF20.o _ _ _ HBx.o
      refine nF rfl fun K hK=>?_
      ·go_simp;go_at_call 100;refine(HSTA.o _ t2 D1 hnb HN2.o HSl.o).mono ?_;rintro e wA ⟨rfl,rfl⟩;refine hK _ _ ?_;clear hK K;refine tF 13 ?_ rfl ?_ ?_;all_goals (try (
        intro w;go_simp<;>(try with_reducible rfl)))
       refine rF [4,14] ?_;refine AllReady.cons rfl (fun K hK=>?_) ?_
       ·go_simp;refine hK _ _ ?_;clear hK K;refine oF 14 rfl fun K hK=>?_
        go_simp;refine hK _ _ ?_;clear hK K;refine oF 15 rfl fun K hK=>?_
        have HRW:=h_ (HRES.o _ HSl.o);refine BI 61 66 4 40 underlying61 HI1.o HY0.o HY1.o HY2.o (HRW.o.junk _) (HRD1.o _) HON1.o ?_;intro A' c' wB hs;have HBx:=h_ hs;have kb:=HG20.o _ _ _ hs;have qf:=kb.frozen;have ql:=kb.lt;have q20:wB.cell? (κ b 20)=some D1.rv:=kb.cell 20;clear hs kb;refine hK _ _ ?_;clear hK K;refine tF 16 ?_ rfl ?_ (tF 17 ?_ rfl ?_ ?_);all_goals (try (
         intro w;go_simp<;>(try with_reducible rfl)))
        refine oF 18 rfl fun K hK=>?_
        go_simp;refine hK _ _ ?_;clear hK K;refine dF ?_;go_wp2_with fail;go_meet;exact HF20.o _ _ _ HBx.o
       refine nF rfl fun K hK=>?_
       ·go_simp;refine hK _ _ ?_;clear hK K;refine oF 4 rfl fun K hK=>?_
        go_simp;refine hK _ _ ?_;clear hK K;refine oF 15 rfl fun K hK=>?_
        have HRW:=h_ (HRES.o _ HSl.o);refine BI 61 66 4 40 underlying61 HI1.o HY0.o HY1.o HY2.o (HRW.o.junk _) (HRD1.o _) HON1.o ?_;intro A' c' wB hs;have HBx:=h_ hs;have kb:=HG20.o _ _ _ hs;have qf:=kb.frozen;have ql:=kb.lt;have q20:wB.cell? (κ b 20)=some D1.rv:=kb.cell 20;clear hs kb;refine hK _ _ ?_;clear hK K;refine tF 16 ?_ rfl ?_ (tF 17 ?_ rfl ?_ ?_);all_goals (try (
         intro w;go_simp<;>(try with_reducible rfl)))
        refine oF 18 rfl fun K hK=>?_
        go_simp;refine hK _ _ ?_;clear hK K;refine dF ?_;go_wp2_with fail;go_meet;exact HF20.o _ _ _ HBx.o
  case rest =>
   obtain⟨D2,hnb2,hlb2,HC3⟩:=hcut;have kb3:=HBL.o _ t3 D2 HC3.o;have HC4:Hid (Sat ω wc.drew (thX b s t3 D2 t3.job*(powH*F))):=h_ (HC3.o.drewN 1);have kb4:=HBL.o _ t3 D2 HC4.o;have HLA:Hid (∀w1,Calls prog 101 #[.pointer D.lb,υ stp,.slice none 0 0] w1 fun e w'=>e=.returned (.tuple #[])∧w'=w1):=h_ (fun w1=>NJ w1 D.lb (stp:Int))
   have HS0:Blk wc.drew b 138 (thC s t3 D2 t3.job):=kb4;clear kb3 kb4;go_wp2;refine gN (fun w1=>Blk w1 b 138 (thC s t3 D2 t3.job)) HS0 fun hh0=>?_
   refine tH 0 ?_ rfl ?_ (tH 1 ?_ rfl ?_ (tH 2 ?_ rfl ?_ (tH 3 ?_ rfl ?_ (tH 4 ?_ rfl ?_ (tH 6 ?_ rfl ?_ ?_)))));all_goals (try (
    intro w hSw;have jf:=hSw.frozen;have jl:=hSw.lt;have j21:w.cell? (κ b 21)=some (.pointer (some ⟨D2.lb,0,none⟩)):=hSw.cell 21;try simp only[sP]
    go_simp<;>(try with_reducible rfl)))
   try simp only[sP]
   refine oH 5 rfl fun K hK=>?_
   go_simp;go_at_call 100;refine(HSTA.o _ t3 D2 hnb2 HN3.o HC4.o).mono ?_;rintro e wA ⟨rfl,rfl⟩;(try go_wp2_with fail);refine hK.q ?_ fun hh1=>?_
   ·exact HS0
   clear hK K hh0;try simp only[sP]
   refine oH 7 rfl fun K hK=>?_
   go_simp;go_at_call 102;refine(HFRE.o _ t3 D2 hnb2 HN3.o HC4.o).mono ?_;rintro e wF ⟨rfl,hs⟩;have HC5:=h_ hs;clear hs;(try go_wp2_with fail);refine hK.q ?_ fun hh2=>?_
   ·exact HBL.o _ t3 D2 HC5.o
   clear hK K hh1;try simp only[sP]
   refine oH 8 rfl fun K hK=>?_
   go_simp;go_at_call 101;refine(HLA.o _).mono ?_;rintro e wA ⟨rfl,rfl⟩;(try go_wp2_with fail);refine hK.q ?_ fun hh3=>?_
   ·exact HBL.o _ t3 D2 HC5.o
   clear hK K hh2;try simp only[sP]
   refine dN ?_;go_wp2_with (go_at_call 103;refine(HOV.o _ D2 HC5.o).mono ?_;rintro e wE ⟨rfl,hs⟩;have HZ:=h_ hs;clear hs);first|(go_ret;exact⟨rfl,HZ.o⟩)|exact bodyPost_end (results_none rfl _ _ _) rfl ⟨rfl,HZ.o⟩|exact bodyPost_ret (results_none rfl _ _ _) rfl ⟨rfl,HZ.o⟩
end Go.Proofs.YtfodmgaliclhfaaGreatDoor
