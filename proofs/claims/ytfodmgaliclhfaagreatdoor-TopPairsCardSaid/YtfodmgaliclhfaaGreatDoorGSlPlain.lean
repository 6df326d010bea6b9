/- Lemmas for TopPairs; no conditions. -/
import Derived.Test.YtfodmgaliclhfaaGreatDoorGEx
import Derived.Lib.ItoaNum
import Derived.Lib.Join
namespace Go.Proofs.YtfodmgaliclhfaaGreatDoor
set_option linter.unusedVariables false
set_option linter.unusedSimpArgs false
set_option maxRecDepth 100000
set_option maxHeartbeats 8000000
open Go.RowKit
def exK (r:PPat)(A:Option Addr)(n c:Nat)(loaded:Bool)(at_ stamp:Nat):Array Value:=ptC r [.slice A n c,.bool loaded,.int .i64 at_,.int .u64 stamp]
theorem ex_tell (ω w:World)(F:HP)(b:Nat)(x:PEx)(h:Sat ω w (extH b x*F))(hn:x.seen.length≤1000)(hok:x.ok)(hat:x.at_≤1000)(a:PAns):
  Calls Tryz.prog 397 #[.pointer (some ⟨b,0,none⟩),ansA a] w (Rets ω F (.tuple #[]) (extH b (x.tell a))):=by
 obtain⟨A,c,h⟩:=extH_of h;obtain⟨rule,seen,loaded,at_,stamp⟩:=x;obtain⟨xw,⟨xv,xh,xo⟩,xd,xe⟩:=a;simp only at hn hat;obtain⟨n,hnl⟩:∃n,seen.length=n:=⟨_,rfl⟩;obtain⟨R,hR⟩:∃R,R=row 148 2 (.slice A n c) n (vS seen)*F:=⟨_,rfl⟩;have h0:Sat ω w (bk b 285 (exK rule A n c loaded at_ stamp)*R):=by
  rw[hR,←hnl];exact h.assoc
 have lt:=h0.blk.lt;have HBX:Hid (Sat ω (w.alloc (.cells #[.int .u64 xw,.int .u64 xv,.bool xh,.int .i64 xo,.bool xd,.int .i64 xe] 100)) (bk b 285 (exK rule A n c loaded at_ stamp)*(bk w.heap.size 100 #[.int .u64 xw,.int .u64 xv,.bool xh,.int .i64 xo,.bool xd,.int .i64 xe]*R))):=h_ (h0.new _ _).swap;have HW:Hid (∀w1 F1,Sat ω w1 (bk b 285 (exK rule A n c loaded at_ stamp)*F1)→Calls Tryz.prog 391 #[.pointer (some ⟨b,0,none⟩),.agg #[.int .u64 xw,.int .u64 xv,.bool xh,.int .i64 xo,.bool xd,.int .i64 xe]] w1 (Rets ω F1 (.bool (decide ((rule.hear ⟨xw,⟨xv,xh,xo⟩,xd,xe⟩).fin≠0))) (bk b 285 (exK (rule.hear ⟨xw,⟨xv,xh,xo⟩,xd,xe⟩) A n c loaded at_ stamp)))):=h_ (fun w1 F1 h1=>pat_stopped ω w1 F1 b 285 rule _ h1 ⟨xw,⟨xv,xh,xo⟩,xd,xe⟩)
 have HS:Hid (∀w1 ld at2 st2 (fin err:Nat) (by_:Int),Sat ω w1 (bk b 285 (exK rule A n c ld at2 st2)*R)→Calls Tryz.prog 392 #[.pointer (some ⟨b,0,none⟩),.int .i64 fin,.int .i64 err,.int .i64 by_] w1 (Rets ω R (.tuple #[]) (bk b 285 (exK (rule.stop fin err by_) A n c ld at2 st2)))):=h_ (fun w1 ld at2 st2 fin err by_ h1=>pat_stop ω w1 R b 285 rule _ h1 fin err by_)
 have HZ:Hid (∀w1 r ld at2 st2,Sat ω w1 (bk b 285 (exK r A n c ld at2 st2)*R)→Sat ω w1 (extH b ⟨r,seen,ld,at2,st2⟩*F)):=h_ (fun w1 r ld at2 st2 h1=>by
  rw[hR,←hnl] at h1;exact extH_to (A:=A) (c:=c) h1.assoc')
 have HRW:Hid (loaded=true→rule.fin=0→∀w1,Sat ω w1 (bk b 285 (exK rule A n c loaded at_ stamp)*R)→at_<n∧∃g,A=some ⟨g,0,none⟩∧g<w1.heap.size∧w1.cell? ⟨g,at_*2+1,none⟩=some (.int .u64 ((seen.getD at_ (0,0)).2:Int))):=h_ (fun hl hf w1 h1=>by
  rw[hR,←hnl] at h1;have hlt:at_<seen.length:=hok hf hl;obtain⟨g,h2,h3,h4⟩:=h1.right.rowAt (l:=seen) (f:=seV) (fun _=>rfl) (0,0) hlt
  exact⟨hnl▸hlt,g,h2,h3,h4 1 (by omega)⟩)
 have HLen:=h_ hnl;have HE:Hid (PEx.tell ⟨rule,seen,loaded,at_,stamp⟩ ⟨xw,⟨xv,xh,xo⟩,xd,xe⟩=(let r:=rule.hear ⟨xw,⟨xv,xh,xo⟩,xd,xe⟩;if r.fin≠0 then⟨r,seen,loaded,at_,stamp⟩ else if loaded=false then PEx.over ⟨rule,seen,true,at_,xw⟩ else if xh then(let r:=rule.waits ⟨xv,xh,xo⟩;if r.1 then⟨r.2,seen,loaded,at_,stamp⟩ else⟨r.2.stop 5 0 xo,seen,loaded,at_,stamp⟩) else if xv≠(seen.getD at_ (0,0)).2 then⟨rule.stop 5 0 (-1),seen,loaded,at_,stamp⟩ else PEx.over ⟨rule,seen,loaded,at_+1,stamp⟩)):=rfl
 rw[HE.o];rw[hnl] at hn;clear h h0 hR hnl HE hok;have hq:(rule.hear ⟨xw,⟨xv,xh,xo⟩,xd,xe⟩).fin=0→rule.hear ⟨xw,⟨xv,xh,xo⟩,xd,xe⟩=rule:=by
  unfold PPat.hear;split<;>simp[PPat.stop]
 generalize rule.hear ⟨xw,⟨xv,xh,xo⟩,xd,xe⟩=r at *
 simp only;simp only[ansA];by_cases h0:r.fin=0
 ·rw[if_neg (by simpa using h0)]
  rw[hq h0] at HW h0;clear hq;rw[h0] at HW;have HR0:=h_ h0;clear h0;cases loaded
  ·rw[if_pos rfl];have HL:Hid (∀w1,Sat ω w1 (bk b 285 (exK rule A n c false at_ stamp)*R)→Sat ω ((w1.setCell ⟨b,6,none⟩ (.bool true)).setCell ⟨b,8,none⟩ (.int .u64 xw)) (bk b 285 (exK rule A n c true at_ xw)*R)):=h_ (fun w1 h1=>(h1.set 6 _).put 8 _ rfl)
   by_cases he:at_=n
   ·have HO:Hid (PEx.over ⟨rule,seen,true,at_,xw⟩=⟨rule.stop 2 0 (-1),seen,true,at_,xw⟩):=h_ (by unfold PEx.over;rw[if_pos (by rw[HLen.o];exact he)])
    rw[HO.o];subst he;go_enter Tryz.func397,Tryz.ntmps397;go_wp2;refine rT 4 ?_;simp only[sD,sE,sF,sG];repeat still_step
    refine wpStill_nil ?_;go_wp2_with (go_at_call 391;refine(HW.o _ _ HBX.o.drew).mono ?_;rintro e w1 ⟨rfl,hs⟩;have c5:=hs.blk.c 5;have c6:=hs.blk.c 6;have c7:=hs.blk.c 7;have c8:=hs.blk.c 8;have fz:=hs.blk.frozen;have lt2:=hs.blk.lt;have q:=hs.right.blk;obtain⟨q0,q1,q2,q3,q4,q5⟩:=q.six;have qf:=q.frozen;have ql:=q.lt;have HX:=h_ hs.swap.right;have HX2:=h_ hs;clear hs q);go_region;go_wp2;go_quiet (fail);go_wp2_with (go_at_call 392;refine(HS.o _ _ _ _ 2 0 (-1) (by repeat' (first|(with_reducible first|refine Sat.drewN ?_ _|refine Sat.drew ?_)|exact HL.o _ HX.o|exact HL.o _ HX.o.drew))).mono ?_;rintro e w2 ⟨rfl,hs⟩;have HY:=h_ hs;clear hs)
    go_end0;exact⟨rfl,HZ.o _ _ _ _ _ HY.o⟩
   ·have HO:Hid (PEx.over ⟨rule,seen,true,at_,xw⟩=⟨rule,seen,true,at_,xw⟩):=h_ (by unfold PEx.over;rw[if_neg (by rw[HLen.o];exact he)])
    rw[HO.o];have d:((at_:Int)==(n:Int))=false:=by rw[beq_eq_false_iff_ne];omega
    have d2:(at_==n)=false:=by simpa using he
    clear he;go_enter Tryz.func397,Tryz.ntmps397;go_wp2;refine rT 4 ?_;simp only[sD,sE,sF,sG];repeat still_step
    refine wpStill_nil ?_;go_wp2_with (go_at_call 391;refine(HW.o _ _ HBX.o.drew).mono ?_;rintro e w1 ⟨rfl,hs⟩;have c5:=hs.blk.c 5;have c6:=hs.blk.c 6;have c7:=hs.blk.c 7;have c8:=hs.blk.c 8;have fz:=hs.blk.frozen;have lt2:=hs.blk.lt;have q:=hs.right.blk;obtain⟨q0,q1,q2,q3,q4,q5⟩:=q.six;have qf:=q.frozen;have ql:=q.lt;have HX:=h_ hs.swap.right;have HX2:=h_ hs;clear hs q);go_region;go_wp2;go_quiet (fail);go_wp2;go_end0;exact⟨rfl,HZ.o _ _ _ _ _ (by repeat' (first|(with_reducible first|refine Sat.drewN ?_ _|refine Sat.drew ?_)|exact HL.o _ HX.o|exact HL.o _ HX.o.drew))⟩
  ·rw[if_neg (by simp)]
   have HRX:=h_ (HRW.o rfl HR0.o);clear HRW;cases xh
   ·rw[if_neg (by simp)]
    generalize hv:(seen.getD at_ (0,0)).2=v at *
    clear hv;by_cases hv:xv=v
    ·subst hv;rw[if_neg (by simp)]
     have HL:Hid (∀w1,Sat ω w1 (bk b 285 (exK rule A n c true at_ stamp)*R)→Sat ω (w1.setCell ⟨b,7,none⟩ (.int .i64 ((at_:Int)+1))) (bk b 285 (exK rule A n c true (at_+1) stamp)*R)):=h_ (fun w1 h1=>h1.put 7 _ rfl)
     by_cases he:at_+1=n
     ·have HO:Hid (PEx.over ⟨rule,seen,true,at_+1,stamp⟩=⟨rule.stop 2 0 (-1),seen,true,at_+1,stamp⟩):=h_ (by unfold PEx.over;rw[if_pos (by rw[HLen.o];exact he)])
      rw[HO.o];subst he;go_enter Tryz.func397,Tryz.ntmps397;go_wp2;refine rT 4 ?_;simp only[sD,sE,sF,sG];repeat still_step
      refine wpStill_nil ?_;go_wp2_with (go_at_call 391;refine(HW.o _ _ HBX.o.drew).mono ?_;rintro e w1 ⟨rfl,hs⟩;have c5:=hs.blk.c 5;have c6:=hs.blk.c 6;have c7:=hs.blk.c 7;have c8:=hs.blk.c 8;have fz:=hs.blk.frozen;have lt2:=hs.blk.lt;have q:=hs.right.blk;obtain⟨q0,q1,q2,q3,q4,q5⟩:=q.six;have qf:=q.frozen;have ql:=q.lt;obtain⟨hlt,g,hA,hg,hc⟩:=HRX.o _ hs.swap.right;subst hA;have HX:=h_ hs.swap.right;have HX2:=h_ hs;clear hs q);go_quiet (fail);go_wp2;go_quiet (fail);go_wp2_with (go_at_call 392;refine(HS.o _ _ _ _ 2 0 (-1) (by repeat' (first|(with_reducible first|refine Sat.drewN ?_ _|refine Sat.drew ?_)|exact HL.o _ HX.o|exact HL.o _ (HX.o.drewN _)))).mono ?_;rintro e w2 ⟨rfl,hs⟩;have HY:=h_ hs;clear hs)
      go_end0;exact⟨rfl,HZ.o _ _ _ _ _ HY.o⟩
     ·have HO:Hid (PEx.over ⟨rule,seen,true,at_+1,stamp⟩=⟨rule,seen,true,at_+1,stamp⟩):=h_ (by unfold PEx.over;rw[if_neg (by rw[HLen.o];exact he)])
      rw[HO.o];have d:((at_:Int)+1==(n:Int))=false:=by rw[beq_eq_false_iff_ne];omega
      have d2:(at_+1==n)=false:=by simpa using he
      clear he;go_enter Tryz.func397,Tryz.ntmps397;go_wp2;refine rT 4 ?_;simp only[sD,sE,sF,sG];repeat still_step
      refine wpStill_nil ?_;go_wp2_with (go_at_call 391;refine(HW.o _ _ HBX.o.drew).mono ?_;rintro e w1 ⟨rfl,hs⟩;have c5:=hs.blk.c 5;have c6:=hs.blk.c 6;have c7:=hs.blk.c 7;have c8:=hs.blk.c 8;have fz:=hs.blk.frozen;have lt2:=hs.blk.lt;have q:=hs.right.blk;obtain⟨q0,q1,q2,q3,q4,q5⟩:=q.six;have qf:=q.frozen;have ql:=q.lt;obtain⟨hlt,g,hA,hg,hc⟩:=HRX.o _ hs.swap.right;subst hA;have HX:=h_ hs.swap.right;have HX2:=h_ hs;clear hs q);go_quiet (fail);go_wp2;go_quiet (fail);go_wp2;go_end0;exact⟨rfl,HZ.o _ _ _ _ _ (by repeat' (first|(with_reducible first|refine Sat.drewN ?_ _|refine Sat.drew ?_)|exact HL.o _ HX.o|exact HL.o _ (HX.o.drewN _)))⟩
    ·rw[if_pos hv];have d:((xv:Int) != (v:Int))=true:=by rw[bne_iff_ne];omega
     have d2:(xv != v)=true:=by simpa using hv
     clear hv;go_enter Tryz.func397,Tryz.ntmps397;go_wp2;refine rT 4 ?_;simp only[sD,sE,sF,sG];repeat still_step
     refine wpStill_nil ?_;go_wp2_with (go_at_call 391;refine(HW.o _ _ HBX.o.drew).mono ?_;rintro e w1 ⟨rfl,hs⟩;have c5:=hs.blk.c 5;have c6:=hs.blk.c 6;have c7:=hs.blk.c 7;have c8:=hs.blk.c 8;have fz:=hs.blk.frozen;have lt2:=hs.blk.lt;have q:=hs.right.blk;obtain⟨q0,q1,q2,q3,q4,q5⟩:=q.six;have qf:=q.frozen;have ql:=q.lt;obtain⟨hlt,g,hA,hg,hc⟩:=HRX.o _ hs.swap.right;subst hA;have HX:=h_ hs.swap.right;have HX2:=h_ hs;clear hs q);go_quiet (fail);go_wp2_with (go_at_call 392;refine(HS.o _ _ _ _ 5 0 (-1) (HX.o.drewN _)).mono ?_;rintro e w2 ⟨rfl,hs⟩;have HY:=h_ hs;clear hs);go_end0;exact⟨rfl,HZ.o _ _ _ _ _ HY.o⟩
   ·rw[if_pos rfl];have HWT:Hid (∀w1 F1,Sat ω w1 (bk b 285 (exK rule A n c true at_ stamp)*F1)→Calls Tryz.prog 394 #[.pointer (some ⟨b,0,none⟩),.agg #[.int .u64 xv,.bool true,.int .i64 xo]] w1 (Rets ω F1 (.bool (rule.waits ⟨xv,true,xo⟩).1) (bk b 285 (exK (rule.waits ⟨xv,true,xo⟩).2 A n c true at_ stamp)))):=h_ (fun w1 F1 h1=>pat_waits ω w1 F1 b 285 rule _ h1 ⟨xv,true,xo⟩)
    generalize rule.waits ⟨xv,true,xo⟩=rr at *
    obtain⟨ok,r2⟩:=rr;simp only at HWT ⊢;cases ok
    ·have HS2:Hid (∀w1,Sat ω w1 (bk b 285 (exK r2 A n c true at_ stamp)*R)→Calls Tryz.prog 392 #[.pointer (some ⟨b,0,none⟩),.int .i64 5,.int .i64 0,.int .i64 xo] w1 (Rets ω R (.tuple #[]) (bk b 285 (exK (r2.stop 5 0 (xo:Int)) A n c true at_ stamp)))):=h_ (fun w1 h1=>pat_stop ω w1 R b 285 r2 _ h1 5 0 (xo:Int))
     simp only[Bool.false_eq_true,if_false];go_enter Tryz.func397,Tryz.ntmps397;go_wp2;refine rT 4 ?_;simp only[sD,sE,sF,sG];repeat still_step
     refine wpStill_nil ?_;go_wp2_with (go_at_call 391;refine(HW.o _ _ HBX.o.drew).mono ?_;rintro e w1 ⟨rfl,hs⟩;have c5:=hs.blk.c 5;have c6:=hs.blk.c 6;have c7:=hs.blk.c 7;have c8:=hs.blk.c 8;have fz:=hs.blk.frozen;have lt2:=hs.blk.lt;have q:=hs.right.blk;obtain⟨q0,q1,q2,q3,q4,q5⟩:=q.six;have qf:=q.frozen;have ql:=q.lt;have HX:=h_ hs.swap.right;have HX2:=h_ hs;clear hs q);refine rT 5 ?_;simp only[sD,sE,sF,sG];repeat still_step
     refine wpStill_nil ?_;go_wp2_with (go_at_call 394;refine(HWT.o _ _ HX2.o.drew).mono ?_;rintro e w2 ⟨rfl,hs⟩;have q:=hs.right.blk;obtain⟨q0,q1,q2,q3,q4,q5⟩:=q.six;have qf:=q.frozen;have ql:=q.lt;have HV:=h_ hs.swap.right;clear hs q);refine rT 6 ?_;simp only[sD,sE,sF,sG];repeat still_step
     refine wpStill_nil ?_;go_wp2_with (go_at_call 392;refine(HS2.o _ HV.o.drew).mono ?_;rintro e w3 ⟨rfl,hs⟩;have HY:=h_ hs;clear hs);go_end0;exact⟨rfl,HZ.o _ _ _ _ _ HY.o⟩
    ·simp only[if_true];go_enter Tryz.func397,Tryz.ntmps397;go_wp2;refine rT 4 ?_;simp only[sD,sE,sF,sG];repeat still_step
     refine wpStill_nil ?_;go_wp2_with (go_at_call 391;refine(HW.o _ _ HBX.o.drew).mono ?_;rintro e w1 ⟨rfl,hs⟩;have c5:=hs.blk.c 5;have c6:=hs.blk.c 6;have c7:=hs.blk.c 7;have c8:=hs.blk.c 8;have fz:=hs.blk.frozen;have lt2:=hs.blk.lt;have q:=hs.right.blk;obtain⟨q0,q1,q2,q3,q4,q5⟩:=q.six;have qf:=q.frozen;have ql:=q.lt;have HX:=h_ hs.swap.right;have HX2:=h_ hs;clear hs q);refine rT 5 ?_;simp only[sD,sE,sF,sG];repeat still_step
     refine wpStill_nil ?_;go_wp2_with (go_at_call 394;refine(HWT.o _ _ HX2.o.drew).mono ?_;rintro e w2 ⟨rfl,hs⟩;have HV:=h_ hs.swap.right;clear hs);go_end0;exact⟨rfl,HZ.o _ _ _ _ _ HV.o⟩
 ·rw[if_pos h0];rw[decide_eq_true h0] at HW;clear hq h0;go_enter Tryz.func397,Tryz.ntmps397;go_wp2;refine rT 4 ?_;simp only[sD,sE,sF,sG];repeat still_step
  refine wpStill_nil ?_;go_wp2_with (go_at_call 391;refine(HW.o _ _ HBX.o.drew).mono ?_;rintro e w1 ⟨rfl,hs⟩;have c5:=hs.blk.c 5;have c6:=hs.blk.c 6;have c7:=hs.blk.c 7;have c8:=hs.blk.c 8;have fz:=hs.blk.frozen;have lt2:=hs.blk.lt;have q:=hs.right.blk;obtain⟨q0,q1,q2,q3,q4,q5⟩:=q.six;have qf:=q.frozen;have ql:=q.lt;have HX:=h_ hs.swap.right;have HX2:=h_ hs;clear hs q);go_end0;exact⟨rfl,HZ.o _ _ _ _ _ HX.o⟩
structure CoD where
 sA:Option Addr
 sC:Nat
 cA:Option Addr
 cC:Nat
 tA:Option Addr
 tC:Nat
 wA:Option Addr
 wC:Nat
def coC (c:PCo)(D:CoD):Array Value:=ptC c.rule [.int .i64 c.me,.int .u64 c.stamp,.slice D.sA c.seen.length D.sC,.slice D.cA c.cells.length D.cC,.slice D.tA c.stripes.length D.tC,.slice D.wA c.was.length D.wC,.int .i64 c.state,.int .i64 c.at_,.int .u64 c.lock.ver,.bool c.lock.held,.int .i64 c.lock.own,.int .u64 c.now,.bool c.writing,.int .i64 c.fin,.int .i64 c.by_,.int .i64 c.err]
def coB (b:Nat)(c:PCo)(D:CoD):HP:=bk b 258 (coC c D)
theorem co_rule (ω w:World)(R:HP)(b:Nat)(c:PCo)(D:CoD)(h:Sat ω w (coB b c D*R))(fin err:Nat)(by_:Int):
  Calls Tryz.prog 392 #[.pointer (some ⟨b,0,none⟩),.int .i64 fin,.int .i64 err,.int .i64 by_] w (Rets ω R (.tuple #[]) (coB b { c with rule:=c.rule.stop fin err by_ } D)):=pat_stop ω w R b _ c.rule _ h fin err by_
theorem co_leave (ω w:World)(R:HP)(b:Nat)(c:PCo)(D:CoD)(h:Sat ω w (coB b c D*R)):
  Calls Tryz.prog 407 #[.pointer (some ⟨b,0,none⟩)] w (Rets ω R (.tuple #[]) (coB b c.leave D)):=by
 have HE:Hid (c.leave=if c.at_=c.was.length then { c with rule:=c.rule.stop c.fin c.err c.by_ } else c):=rfl
 rw[HE.o];have c12:=h.blk.c 12;have c10:=h.blk.c 10;have c18:=h.blk.c 18;have c19:=h.blk.c 19;have c20:=h.blk.c 20;have lt:=h.blk.lt;have H:=h_ h;have HS:=h_ (fun w1 (h1:Sat ω w1 (coB b c D*R))=>co_rule ω w1 R b c D h1 c.fin c.err c.by_)
 clear h HE;generalize c.was.length=n at *
 by_cases h0:c.at_=n
 ·rw[if_pos h0];rw[h0] at c12;clear h0;go_enter Tryz.func407,Tryz.ntmps407;go_wp2;go_quiet (fail);go_wp2;refine rT 15 ?_;simp only[sD,sE,sF,sG];repeat still_step
  refine wpStill_nil ?_;go_wp2_with (go_at_call 392;refine(HS.o _ (by repeat' (first|(with_reducible first|refine Sat.drewN ?_ _|refine Sat.drew ?_|refine Sat.junk ?_ _)|exact H.o))).mono ?_;rintro e w2 ⟨rfl,hs⟩;have HY:=h_ hs;clear hs)
  go_end0;exact⟨rfl,HY.o⟩
 ·rw[if_neg h0];have d:((c.at_:Int)==(n:Int))=false:=by rw[beq_eq_false_iff_ne];omega
  have d2:(c.at_==n)=false:=by simpa using h0
  clear h0;go_enter Tryz.func407,Tryz.ntmps407;go_wp2;go_quiet (fail);go_wp2;go_end0;exact⟨rfl,H.o.drewN _⟩
theorem co_give (ω w:World)(R:HP)(b:Nat)(c:PCo)(D:CoD)(h:Sat ω w (coB b c D*R)):
  Calls Tryz.prog 406 #[.pointer (some ⟨b,0,none⟩)] w (Rets ω R (.tuple #[]) (coB b c.give D)):=by
 have HE:Hid (c.give=if c.at_=c.stripes.length then { c with rule:=c.rule.stop 2 0 (-1) } else c):=rfl
 rw[HE.o];have c12:=h.blk.c 12;have c9:=h.blk.c 9;have lt:=h.blk.lt;have H:=h_ h;have HS:=h_ (fun w1 (h1:Sat ω w1 (coB b c D*R))=>co_rule ω w1 R b c D h1 2 0 (-1))
 clear h HE;generalize c.stripes.length=n at *
 by_cases h0:c.at_=n
 ·rw[if_pos h0];rw[h0] at c12;clear h0;go_enter Tryz.func406,Tryz.ntmps406;go_wp2;go_quiet (fail);go_wp2_with (go_at_call 392;refine(HS.o _ (by repeat' (first|(with_reducible first|refine Sat.drewN ?_ _|refine Sat.drew ?_|refine Sat.junk ?_ _)|exact H.o))).mono ?_;rintro e w2 ⟨rfl,hs⟩;have HY:=h_ hs;clear hs)
  go_end0;exact⟨rfl,HY.o⟩
 ·rw[if_neg h0];have d:((c.at_:Int)==(n:Int))=false:=by rw[beq_eq_false_iff_ne];omega
  have d2:(c.at_==n)=false:=by simpa using h0
  clear h0;go_enter Tryz.func406,Tryz.ntmps406;go_wp2;go_quiet (fail);go_wp2;go_end0;exact⟨rfl,H.o.drewN _⟩
theorem co_write (ω w:World)(R:HP)(b:Nat)(c:PCo)(D:CoD)(h:Sat ω w (coB b c D*R)):
  Calls Tryz.prog 405 #[.pointer (some ⟨b,0,none⟩)] w (Rets ω R (.tuple #[]) (coB b c.write D)):=by
 have HE:Hid (c.write=if c.at_=c.cells.length then { c with at_:=0,state:=6 }.give else c):=rfl
 rw[HE.o];have c12:=h.blk.c 12;have c8:=h.blk.c 8;have c11:=h.blk.c 11;have fz:=h.blk.frozen;have lt:=h.blk.lt;have H:=h_ h;have HL:Hid (∀w1,Sat ω w1 (coB b c D*R)→Sat ω ((w1.setCell ⟨b,12,none⟩ (.int .i64 0)).setCell ⟨b,11,none⟩ (.int .i64 6)) (coB b { c with at_:=0,state:=6 } D*R)):=h_ (fun w1 h1=>(h1.set 12 _).put 11 _ rfl)
 have HS:=h_ (fun w1 (h1:Sat ω w1 (coB b { c with at_:=0,state:=6 } D*R))=>co_give ω w1 R b { c with at_:=0,state:=6 } D h1)
 clear h HE;generalize c.cells.length=n at *
 by_cases h0:c.at_=n
 ·rw[if_pos h0];rw[h0] at c12;clear h0;go_enter Tryz.func405,Tryz.ntmps405;go_wp2;go_quiet (fail);go_wp2_with (go_at_call 406;refine(HS.o _ (by repeat' (first|(with_reducible refine Sat.drewN ?_ _)|exact HL.o _ (H.o.drewN _)))).mono ?_;rintro e w2 ⟨rfl,hs⟩;have HY:=h_ hs;clear hs)
  go_end0;exact⟨rfl,HY.o⟩
 ·rw[if_neg h0];have d:((c.at_:Int)==(n:Int))=false:=by rw[beq_eq_false_iff_ne];omega
  have d2:(c.at_==n)=false:=by simpa using h0
  clear h0;go_enter Tryz.func405,Tryz.ntmps405;go_wp2;go_quiet (fail);go_wp2;go_end0;exact⟨rfl,H.o.drewN _⟩
theorem co_begin (ω w:World)(R:HP)(b:Nat)(c:PCo)(D:CoD)(h:Sat ω w (coB b c D*R)):
  Calls Tryz.prog 401 #[.pointer (some ⟨b,0,none⟩)] w (Rets ω R (.tuple #[]) (coB b c.begin D)):=by
 have c12:=h.blk.c 12;have c11:=h.blk.c 11;have c17:=h.blk.c 17;have fz:=h.blk.frozen;have lt:=h.blk.lt;have H:=h_ h;have HL:Hid (∀w1,Sat ω w1 (coB b c D*R)→Sat ω (((w1.setCell ⟨b,17,none⟩ (.bool true)).setCell ⟨b,12,none⟩ (.int .i64 0)).setCell ⟨b,11,none⟩ (.int .i64 5)) (coB b { c with writing:=true,at_:=0,state:=5 } D*R)):=h_ (fun w1 h1=>((h1.set 17 _).set 12 _).put 11 _ rfl)
 have HS:Hid (∀w1,Sat ω w1 (coB b { c with writing:=true,at_:=0,state:=5 } D*R)→Calls Tryz.prog 405 #[.pointer (some ⟨b,0,none⟩)] w1 (Rets ω R (.tuple #[]) (coB b c.begin D))):=h_ (fun w1 h1=>co_write ω w1 R b { c with writing:=true,at_:=0,state:=5 } D h1)
 clear h;go_enter Tryz.func401,Tryz.ntmps401;go_wp2_with (go_at_call 405;refine(HS.o _ (HL.o _ H.o)).mono ?_;rintro e w2 ⟨rfl,hs⟩;have HY:=h_ hs;clear hs);go_end0;exact⟨rfl,HY.o⟩
theorem co_stop (ω w:World)(R:HP)(b:Nat)(c:PCo)(D:CoD)(h:Sat ω w (coB b c D*R))(fin err:Nat)(by_:Int):
  Calls Tryz.prog 409 #[.pointer (some ⟨b,0,none⟩),.int .i64 fin,.int .i64 err,.int .i64 by_] w (Rets ω R (.tuple #[]) (coB b (c.stop fin err by_) D)):=by
 have c11:=h.blk.c 11;have c12:=h.blk.c 12;have c18:=h.blk.c 18;have c19:=h.blk.c 19;have c20:=h.blk.c 20;have fz:=h.blk.frozen;have lt:=h.blk.lt;have H:=h_ h;have HL:Hid (∀w1,Sat ω w1 (coB b c D*R)→Sat ω (((((w1.setCell ⟨b,18,none⟩ (.int .i64 fin)).setCell ⟨b,20,none⟩ (.int .i64 err)).setCell ⟨b,19,none⟩ (.int .i64 by_)).setCell ⟨b,12,none⟩ (.int .i64 0)).setCell ⟨b,11,none⟩ (.int .i64 7)) (coB b { c with fin:=fin,err:=err,by_:=by_,at_:=0,state:=7 } D*R)):=h_ (fun w1 h1=>((((h1.set 18 _).set 20 _).set 19 _).set 12 _).put 11 _ rfl)
 have HS:Hid (∀w1,Sat ω w1 (coB b { c with fin:=fin,err:=err,by_:=by_,at_:=0,state:=7 } D*R)→Calls Tryz.prog 407 #[.pointer (some ⟨b,0,none⟩)] w1 (Rets ω R (.tuple #[]) (coB b (c.stop fin err by_) D))):=h_ (fun w1 h1=>co_leave ω w1 R b { c with fin:=fin,err:=err,by_:=by_,at_:=0,state:=7 } D h1)
 clear h;go_enter Tryz.func409,Tryz.ntmps409;go_wp2_with (go_at_call 407;refine(HS.o _ (HL.o _ H.o)).mono ?_;rintro e w2 ⟨rfl,hs⟩;have HY:=h_ hs;clear hs);go_end0;exact⟨rfl,HY.o⟩
theorem co_held (ω w:World)(R:HP)(b:Nat)(c:PCo)(D:CoD)(h:Sat ω w (coB b c D*R))(l:PLk):
  Calls Tryz.prog 408 #[.pointer (some ⟨b,0,none⟩),lkA l] w (Rets ω R (.tuple #[]) (coB b (c.heldBy l) D)):=by
 obtain⟨xv,xh,xo⟩:=l;have HE:Hid (c.heldBy ⟨xv,xh,xo⟩=(let r:=c.rule.waits ⟨xv,xh,xo⟩;let c:={ c with rule:=r.2 };if r.1 then c else c.stop 5 0 xo)):=rfl
 rw[HE.o];have lt:=h.blk.lt;have HBX:Hid (Sat ω (w.alloc (.cells #[.int .u64 xv,.bool xh,.int .i64 xo] 93)) (coB b c D*(bk w.heap.size 93 #[.int .u64 xv,.bool xh,.int .i64 xo]*R))):=h_ (h.new _ _).swap;have HW:Hid (∀w1 F1,Sat ω w1 (coB b c D*F1)→Calls Tryz.prog 394 #[.pointer (some ⟨b,0,none⟩),.agg #[.int .u64 xv,.bool xh,.int .i64 xo]] w1 (Rets ω F1 (.bool (c.rule.waits ⟨xv,xh,xo⟩).1) (coB b { c with rule:=(c.rule.waits ⟨xv,xh,xo⟩).2 } D))):=h_ (fun w1 F1 h1=>pat_waits ω w1 F1 b _ c.rule _ h1 ⟨xv,xh,xo⟩)
 generalize c.rule.waits ⟨xv,xh,xo⟩=rr at *
 obtain⟨ok,r2⟩:=rr;simp only at HW ⊢;have HS:Hid (∀w1,Sat ω w1 (coB b { c with rule:=r2 } D*R)→Calls Tryz.prog 409 #[.pointer (some ⟨b,0,none⟩),.int .i64 5,.int .i64 0,.int .i64 xo] w1 (Rets ω R (.tuple #[]) (coB b ({ c with rule:=r2 }.stop 5 0 xo) D))):=h_ (fun w1 h1=>co_stop ω w1 R b { c with rule:=r2 } D h1 5 0 xo)
 clear h HE;simp only[lkA];cases ok
 ·simp only[Bool.false_eq_true,if_false];go_enter Tryz.func408,Tryz.ntmps408;go_wp2;refine rT 4 ?_;simp only[sD,sE,sF,sG];repeat still_step
  refine wpStill_nil ?_;go_wp2_with (first
   |(go_at_call 394;refine(HW.o _ _ HBX.o.drew).mono ?_;rintro e w1 ⟨rfl,hs⟩;have q:=hs.right.blk;have q0:=q.cell 0;have q1:=q.cell 1;have q2:=q.cell 2;have ql:=q.lt;have HX:=h_ hs.swap.right;clear hs q)
   |(go_at_call 409;refine(HS.o _ HX.o).mono ?_;rintro e w2 ⟨rfl,hs⟩;have HY:=h_ hs;clear hs))
  go_end0;exact⟨rfl,HY.o⟩
 ·simp only[if_true];go_enter Tryz.func408,Tryz.ntmps408;go_wp2;refine rT 4 ?_;simp only[sD,sE,sF,sG];repeat still_step
  refine wpStill_nil ?_;go_wp2_with (go_at_call 394;refine(HW.o _ _ HBX.o.drew).mono ?_;rintro e w1 ⟨rfl,hs⟩;have HX:=h_ hs.swap.right;clear hs);go_end0;exact⟨rfl,HX.o⟩
theorem co_more (ω w:World)(R:HP)(b:Nat)(c:PCo)(D:CoD)(h:Sat ω w (coB b c D*R)):
  Calls Tryz.prog 164 #[.pointer (some ⟨b,0,none⟩)] w (Rets ω R (.tuple #[]) (coB b c.more D)):=by
 have HE:Hid (c.more={ c with state:=if c.was.length=c.stripes.length then 2 else 0 }):=rfl
 rw[HE.o];have c11:=h.blk.c 11;have c9:=h.blk.c 9;have c10:=h.blk.c 10;have fz:=h.blk.frozen;have lt:=h.blk.lt;have H:=h_ h;have HL0:Hid (∀w1,Sat ω w1 (coB b c D*R)→Sat ω (w1.setCell ⟨b,11,none⟩ (.int .i64 0)) (coB b { c with state:=0 } D*R)):=h_ (fun w1 h1=>h1.put 11 _ rfl)
 have HL2:Hid (∀w1,Sat ω w1 (coB b c D*R)→Sat ω (w1.setCell ⟨b,11,none⟩ (.int .i64 2)) (coB b { c with state:=2 } D*R)):=h_ (fun w1 h1=>h1.put 11 _ rfl)
 have HB0:Hid (∀w1,Sat ω w1 (coB b { c with state:=0 } D*R)→Sat ω (w1.setCell ⟨b,11,none⟩ (.int .i64 2)) (coB b { c with state:=2 } D*R)):=h_ (fun w1 h1=>h1.put 11 _ rfl)
 clear h HE;generalize c.was.length=n at *
 generalize c.stripes.length=m at *
 by_cases h0:n=m
 ·rw[if_pos h0];subst h0;go_enter Tryz.func164,Tryz.ntmps164;go_wp2;go_quiet (fail);go_wp2;go_end0;exact⟨rfl,HB0.o _ ((HL0.o _ H.o).drewN _)⟩
 ·rw[if_neg h0];have d:((n:Int)==(m:Int))=false:=by rw[beq_eq_false_iff_ne];omega
  have d2:(n==m)=false:=by simpa using h0
  clear h0;go_enter Tryz.func164,Tryz.ntmps164;go_wp2;go_quiet (fail);go_wp2;go_end0;exact⟨rfl,(HL0.o _ H.o).drewN _⟩
def digB (b:UInt8):Bool:=decide (48≤b.toNat)&&decide (b.toNat≤57)
def dv (b:UInt8):Nat:=b.toNat-48
def vstep (n:Nat)(b:UInt8):Nat:=10*n+dv b
def valD (n:Nat)(l:List UInt8):Nat:=l.foldl vstep n
theorem valD_cons (n:Nat)(b:UInt8)(l:List UInt8):valD n (b::l)=valD (10*n+dv b) l:=by
 unfold valD;rw[List.foldl_cons];unfold vstep;exact Eq.refl _
theorem valD_zero (b:UInt8)(l:List UInt8):valD 0 (b::l)=valD (dv b) l:=by
 have h:10*0+dv b=dv b:=by rw[Nat.mul_zero,Nat.zero_add]
 exact(valD_cons 0 b l).trans (congrArg (fun k=>valD k l) h)
def decOf (l:List UInt8):Option Nat :=
 if l≠[]∧l.all digB=true∧¬(l.head?=some 48∧1<l.length) then some (valD 0 l) else none
theorem valD_ge:∀(l:List UInt8) (n:Nat),n*10 ^ l.length≤valD n l
 | [],n=>by unfold valD;simp
 |b::l,n=>by
  have h:=valD_ge l (10*n+(b.toNat-48));have e:valD n (b::l)=valD (10*n+dv b) l:=rfl;rw[e,List.length_cons,Nat.pow_succ,Nat.mul_comm (10 ^ l.length) 10,←Nat.mul_assoc];generalize 10 ^ l.length=p at h ⊢;have h2:n*10*p≤(10*n+dv b)*p:=Nat.mul_le_mul_right p (by omega)
  exact Nat.le_trans h2 h
theorem valD_le_self (l:List UInt8)(n:Nat):n≤valD n l:=by
 have h:=valD_ge l n
 have:1≤10 ^ l.length:=Nat.one_le_pow _ _ (by decide)
 exact Nat.le_trans (Nat.le_mul_of_pos_right n this) h
theorem valD_snoc (l:List UInt8)(b:UInt8):∀n,valD n (l++[b])=10*valD n l+dv b:=by
 induction l with
 |nil=>intro n;exact valD_cons n b []
 |cons c l ih=>intro n;rw[List.cons_append,valD_cons,valD_cons];exact ih _
theorem dig_of (d:Nat)(h:d<10):digB (UInt8.ofNat (48+d))=true∧(UInt8.ofNat (48+d)).toNat=48+d:=by
 have e:(UInt8.ofNat (48+d)).toNat=48+d:=by
  rw[UInt8.toNat_ofNat'];omega
 exact⟨by simp[digB,e];omega,e⟩
theorem decDigits_small {u:Nat}(h:u<10):Go.Lib.decDigits u=[UInt8.ofNat (48+u)]:=by rw[Go.Lib.decDigits,dif_pos h]
theorem decDigits_big {u:Nat}(h:¬u<10):Go.Lib.decDigits u=Go.Lib.decDigits (u / 10)++[UInt8.ofNat (48+u%10)]:=by
 conv=>lhs;rw[Go.Lib.decDigits]
 rw[dif_neg h]
theorem decDigits_ne (u:Nat):Go.Lib.decDigits u≠[]:=by
 by_cases h:u<10
 ·rw[decDigits_small h];simp
 ·rw[decDigits_big h];simp
theorem decDigits_all (u:Nat):(Go.Lib.decDigits u).all digB=true:=by
 induction u using Nat.strongRecOn with
 |_ u ih =>
  by_cases h:u<10
  ·rw[decDigits_small h];simp only[List.all_cons,List.all_nil,Bool.and_true,(dig_of u h).1]
  ·rw[decDigits_big h];simp only[List.all_append,List.all_cons,List.all_nil,Bool.and_true,ih (u / 10) (by omega),(dig_of (u%10) (by omega)).1]
theorem decDigits_val (u:Nat):valD 0 (Go.Lib.decDigits u)=u:=by
 induction u using Nat.strongRecOn with
 |_ u ih =>
  by_cases h:u<10
  ·have e:=(dig_of u h).2;rw[decDigits_small h];generalize UInt8.ofNat (48+u)=b at e;have e3:dv b=u:=by unfold dv;rw[e];omega
   have e2:valD 0 [b]=dv b:=valD_zero b [];rw[e2,e3]
  ·have e:=(dig_of (u%10) (by omega)).2
   rw[decDigits_big h,valD_snoc,ih (u / 10) (by omega)]
   generalize UInt8.ofNat (48+u%10)=b at e;have e3:dv b=u%10:=by unfold dv;rw[e];omega
   rw[e3];omega
theorem decDigits_head (u:Nat)(hu:0<u):(Go.Lib.decDigits u).head?≠some 48:=by
 induction u using Nat.strongRecOn with
 |_ u ih =>
  by_cases h:u<10
  ·rw[decDigits_small h];intro e;have e':UInt8.ofNat (48+u)=48:=Option.some.inj e
   have:=(dig_of u h).2
   rw[e'] at this;have h48:(48:UInt8).toNat=48:=rfl;omega
  ·rw[decDigits_big h,List.head?_append];have hne:=decDigits_ne (u / 10);have h2:=ih (u / 10) (by omega) (by omega)
   cases hd:Go.Lib.decDigits (u / 10) with
   |nil=>exact absurd hd hne
   |cons b l=>rw[hd] at h2;simpa using h2
theorem decOf_digits (u:Nat):decOf (Go.Lib.decDigits u)=some u:=by
 have h:¬((Go.Lib.decDigits u).head?=some 48∧1<(Go.Lib.decDigits u).length):=by
  rintro⟨h1,h2⟩;by_cases hu:0<u
  ·exact absurd h1 (decDigits_head u hu)
  ·have:u=0:=by omega
   subst this;rw[decDigits_small (by decide)] at h2
   simp at h2
 unfold decOf;rw[if_pos ⟨decDigits_ne u,decDigits_all u,h⟩,decDigits_val]
theorem digits_of_val:∀(k:Nat) (l:List UInt8),l.length=k→l≠[]→l.all digB=true→¬(l.head?=some 48∧1<l.length)→Go.Lib.decDigits (valD 0 l)=l:=by
 intro k;induction k with
 |zero=>intro l h1 h2;exact absurd (List.eq_nil_of_length_eq_zero h1) h2
 |succ k ih =>
  intro l h1 h2 h3 h4;obtain⟨m,b,rfl⟩:∃m b,l=m++[b]:=⟨l.dropLast,l.getLast h2,(List.dropLast_concat_getLast h2).symm⟩;simp at h1;rw[List.all_append] at h3;simp only[Bool.and_eq_true,List.all_cons,List.all_nil,Bool.and_true] at h3;obtain⟨hm,hb⟩:=h3;have hb':48≤b.toNat∧b.toNat≤57:=by simpa [digB] using hb
  have hdv:dv b<10∧48+dv b=b.toNat:=by unfold dv;omega
  have eb:UInt8.ofNat (48+dv b)=b:=by
   rw[hdv.2];exact UInt8.ofNat_toNat
  replace hdv:=hdv.1;clear hb';rw[valD_snoc];generalize dv b=B at hdv eb ⊢;cases m with
  |nil =>
   have e2:valD 0 []=0:=rfl;rw[e2,Nat.mul_zero,Nat.zero_add,decDigits_small hdv,eb,List.nil_append]
  |cons c m =>
   have hm0:¬((c::m).head?=some 48∧1<(c::m).length):=by
    rintro⟨e,_⟩;exact h4 ⟨by simpa using e,by simp⟩
   have e:=ih (c::m) h1 (by simp) hm hm0
   have hc:c≠48:=fun e=>h4 ⟨by simp[e],by simp⟩
   have hcd:48≤c.toNat∧c.toNat≤57:=by
    have:=hm
    simp only[List.all_cons,Bool.and_eq_true] at this;simpa [digB] using this.1
   have hpos:0<valD 0 (c::m):=by
    have:0<dv c:=by
     have:c.toNat≠48:=fun e=>hc (UInt8.toNat_inj.1 (by simpa using e))
     unfold dv;omega
    rw[valD_zero];exact Nat.lt_of_lt_of_le this (valD_le_self m _)
   clear hcd hc hm0 h4 h1 ih hm hb;generalize valD 0 (c::m)=V at hpos e ⊢;have q1:¬(10*V+B)<10:=by clear e eb;omega
   have q2:(10*V+B) / 10=V:=by clear e eb;omega
   have q3:(10*V+B)%10=B:=by clear e eb;omega
   rw[decDigits_big q1,q2,q3,e,eb]
theorem decOf_some {l:List UInt8}{n:Nat}(h:decOf l=some n):l=Go.Lib.decDigits n:=by
 unfold decOf at h;split at h
 ·rename_i hc;injection h with h
  rw[←h];exact(digits_of_val _ l rfl hc.1 hc.2.1 hc.2.2).symm
 ·cases h
theorem decOf_long {l:List UInt8}{n:Nat}(h:decOf l=some n)(h2:n<10 ^ 20):l.length≤20:=by
 have hl:=decOf_some h;unfold decOf at h;split at h
 ·rename_i hc;injection h with h
  rcases l with _|⟨c,m⟩
  ·simp
  ·by_cases h1:1<(c::m).length
   ·have hc48:c≠48:=fun e=>hc.2.2 ⟨by simp[e],h1⟩
    have hcd:48≤c.toNat∧c.toNat≤57:=by
     have:=hc.2.1
     simp only[List.all_cons,Bool.and_eq_true] at this;simpa [digB] using this.1
    have hc1:1≤dv c:=by
     have:c.toNat≠48:=fun e=>hc48 (UInt8.toNat_inj.1 (by simpa using e))
     unfold dv;omega
    have hge:=valD_ge m (dv c);have e:valD 0 (c::m)=valD (dv c) m:=valD_zero c m;rw[←e,h] at hge
    have:10 ^ m.length≤n:=Nat.le_trans (Nat.le_mul_of_pos_left _ hc1) hge
    have h3:10 ^ m.length<10 ^ 20:=by omega
    have:=(Nat.pow_lt_pow_iff_right (by decide:1<10)).1 h3
    simp;omega
   ·omega
 ·cases h
inductive Itm where
 |num (n:Nat)
 |truth (b:Bool)
 |nothing
 deriving DecidableEq
def Itm.ok:Itm→Prop
 | .num n=>n≤18446744073709551615
 |_=>True
def bYes:List UInt8:=[121,101,115]
def bNo:List UInt8:=[110,111]
def bNone:List UInt8:=[110,111,110,101]
def itmW:Itm→List UInt8
 | .num n=>Go.Lib.decDigits n
 | .truth true=>bYes
 | .truth false=>bNo
 | .nothing=>bNone
def textI (l:List Itm):List UInt8:=Go.Lib.join (l.map itmW) [32]
theorem itmW_len (x:Itm)(h:x.ok):(itmW x).length≤20:=by
 rcases x with n|b|_
 ·exact decOf_long (decOf_digits n) (by have:n≤18446744073709551615:=h;omega)
 ·cases b<;>decide
 ·decide
theorem joinTail_len (r:List (List UInt8))(k:Nat)(h:∀w∈r,w.length≤k):(Go.Lib.joinTail [32] r).length≤r.length*(k+1):=by
 induction r with
 |nil=>simp[Go.Lib.joinTail]
 |cons w r ih =>
  have:=ih (fun w hw=>h w (by simp[hw]))
  have hw:=h w (by simp)
  simp[Go.Lib.joinTail] at this ⊢;rw[Nat.add_mul];omega
theorem textI_len (l:List Itm)(h:∀x∈l,x.ok):(textI l).length≤l.length*21:=by
 cases l with
 |nil=>simp[textI,Go.Lib.join_nil]
 |cons x l =>
  unfold textI;rw[List.map_cons,Go.Lib.join_cons,List.length_append];have h1:=itmW_len x (h x (by simp))
  have h2:=joinTail_len (l.map itmW) 20 (by
   intro w hw;obtain⟨y,hy,rfl⟩:=List.mem_map.1 hw;exact itmW_len y (h y (by simp[hy])))
  simp at h2 ⊢;omega
end Go.Proofs.YtfodmgaliclhfaaGreatDoor
