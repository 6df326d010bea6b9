/- Lemmas. -/
import Derived.Test.YtfodmgaliclhfaaGreatDoorGCoRaise
import Derived.Lib.SlicesCompact
import Derived.LoopTactic
import Derived.Lib.RowBridge
import Derived.Test.YtfodmgaliclhfaaGreatDoorGOkD
namespace Go.Proofs.YtfodmgaliclhfaaGreatDoor
set_option linter.unusedVariables false
set_option linter.unusedSimpArgs false
set_option maxRecDepth 100000
set_option maxHeartbeats 8000000
open Go.RowKit Go.Proofs.Tryz Iq Jq
section
variable (ω w : World) (F : HP)
theorem Lt (b:Nat)(c:PCo)(D:CoD)(h:Sat ω w (coB b c D*(coRows c D*F)))(hs:c.small)(a:PAns)(hst:c.state≤1):
  Calls prog 402 #[.pointer b,ansA a] w (TakePost ω F b (c.take a)):=by
 by_cases h0:c.state=0
 ·by_cases hl:a.lock.held=true
  ·exact Gu ω w F b c D h a h0 hl
  ·exact Gv ω w F b c D h a h0 (by simpa using hl)
 ·by_cases hd:a.done=true
  ·exact Iv ω w F b c D h hs a (by omega) hd
  ·exact Gt ω w F b c D h a (by omega) (by simpa using hd)
theorem Iy (b:Nat)(c:PCo)(D:CoD)(h:Sat ω w (coB b c D*(coRows c D*F)))(a:PAns)(hs:c.small)(hp:0<c.stripes.length)(hso:c.stripes.Pairwise (· < ·))(hfu:c.was.length=c.stripes.length)(hat:c.at_≤1000)(h2:2≤c.state)(h3:c.state≤3):
  Calls prog 403 #[.pointer b,ansA a] w (TakePost ω F b (c.raise a)):=by
 by_cases h0:c.state=2
 ·by_cases hw:4611686018427387903≤a.word
  ·exact Gy ω w F b c D h a h0 hw
  ·exact Gz ω w F b c D h a h0 hw
 ·by_cases hd:a.done=true
  ·exact Gx ω w F b c D h a hs hp hso hfu hat (by omega) hd
  ·exact Fb ω w F b c D h a (by omega) (by simpa using hd)
theorem Hb (c:PCo)(D:CoD):coRows c.write D=coRows c D:=by
 unfold PCo.write PCo.give;split
 ·simp only;split<;>rfl
 ·rfl
theorem JD (c:PCo)(D:CoD):coRows c.give D=coRows c D:=by
 unfold PCo.give;split<;>rfl
theorem Hc (c:PCo)(D:CoD):coRows c.leave D=coRows c D:=by
 unfold PCo.leave;split<;>rfl
theorem DC (ω:World)(b:Nat)(c:PCo)(D:CoD)(xw xv:Nat)(xh:Bool)(xo:Nat)(xd:Bool)(xe:Nat):∀w1 F1,Sat ω w1 (coB b c D*F1)→Calls prog 391 #[.pointer b,.agg #[υ xw,υ xv,.bool xh,xo,.bool xd,xe]] w1 (Rets ω F1 (.bool (decide ((c.rule.hear ⟨xw,⟨xv,xh,xo⟩,xd,xe⟩).fin≠0))) (coB b {c with rule:=c.rule.hear ⟨xw,⟨xv,xh,xo⟩,xd,xe⟩} D)):=fun w1 F1 h1=>Bs ω w1 F1 b _ c.rule _ h1 ⟨xw,⟨xv,xh,xo⟩,xd,xe⟩
theorem DE {ω w:World}{F:HP}{b:Nat}{c:PCo}{D:CoD}(h:Sat ω w (coB b c D*(coRows c D*F)))(xw xv:Nat)(xh:Bool)(xo:Nat)(xd:Bool)(xe:Nat):Sat ω (w.alloc (.cells #[υ xw,υ xv,.bool xh,xo,.bool xd,xe] 100)) (coB b c D*(bk w.heap.size 100 #[υ xw,υ xv,.bool xh,xo,.bool xd,xe]*(coRows c D*F))):=(h.new _ _).swap
theorem Iu (b:Nat)(c:PCo)(h:Sat ω w (coH b c*F))(hc:c.wf)(a:PAns)(hf:(c.rule.hear a).fin≠0):
  Calls prog 400 #[.pointer b,ansA a] w (TakePost ω F b (c.tell a)):=by
 have HE:Hid (c.tell a={c with rule:=c.rule.hear a}):=h_ (by unfold PCo.tell;simp only;rw[if_pos hf])
 rw[HE.o];obtain⟨D,h⟩:=h.of_ex;have h:=h.coOf;have lt:=h.blk.lt;obtain⟨xw,⟨xv,xh,xo⟩,xd,xe⟩:=a;have HBX:=h_ (DE h xw xv xh xo xd xe);have HW:=h_ (DC ω b c D xw xv xh xo xd xe);rw[decide_eq_true hf] at HW;generalize c.rule.hear ⟨xw,⟨xv,xh,xo⟩,xd,xe⟩=r at *
 have HST:Hid (∀w1,Blk w1 b 258 (coC {c with rule:=r} D)→w1.cell? (κ b 11)=some (.int .i64 c.state)):=h_ (fun w1 h1=>h1.cell 11)
 have HD:Hid (∀w1,Sat ω w1 (coB b {c with rule:=r} D*(coRows c D*F))→TakePost ω F b {c with rule:=r} (.returned (.tuple #[])) w1):=h_ (fun w1 h1=>TakePost.of (D:=D) h1)
 simp only[ansA];go_enter func400,ntmps400;go_wp2;refine rT 4 ?_;simp only[sD,sE,sF,sG];repeat still_step
 refine wpStill_nil ?_;go_wp2_with (go_at_call 391;refine(HW.o _ _ HBX.o.drew).mono ?_;rintro e w1 ⟨rfl,hs⟩;have q:=hs.right.blk;obtain⟨q0,q1,q2,q3,q4,q5⟩:=q.six;have qf:=q.frozen;have ql:=q.lt;have c11:=HST.o _ hs.blk;have HX:=h_ hs.swap.right);go_end0;exact HD.o _ HX.o
theorem QT (b:Nat)(c:PCo)(h:Sat ω w (coH b c*F))(hc:c.wf)(a:PAns)(hf:(c.rule.hear a).fin=0)(hst:c.state=0):
  Calls prog 400 #[.pointer b,ansA a] w (TakePost ω F b (c.tell a)):=by
 have hq:c.rule.hear a=c.rule:=by
  revert hf;unfold PPat.hear;split<;>simp[PPat.stop]
 have HE:Hid (c.tell a=c.take a):=h_ (by obtain⟨r,me,stamp,seen,cells,stripes,was,state,at_,lock,now,writing,fin,by_,err⟩:=c;simp only at hst;subst hst;unfold PCo.tell;simp only;rw[if_neg (by simpa using hf)])
 rw[HE.o];obtain⟨D,h⟩:=h.of_ex;have h:=h.coOf;have lt:=h.blk.lt;obtain⟨xw,⟨xv,xh,xo⟩,xd,xe⟩:=a;have HBX:=h_ (DE h xw xv xh xo xd xe);have HW:=h_ (DC ω b c D xw xv xh xo xd xe);rw[hf,hq] at HW;have hf0:c.rule.fin=0:=by rw[←hq];exact hf
 have HST:Hid (∀w1,Blk w1 b 258 (coC c D)→w1.cell? (κ b 11)=some (.int .i64 ((0:Nat):Int))):=h_ (fun w1 h1=>hst▸h1.cell 11)
 have HQ:Hid (∀w1,Sat ω w1 (coB b c D*(coRows c D*F))→Calls prog 402 #[.pointer b,.agg #[υ xw,υ xv,.bool xh,xo,.bool xd,xe]] w1 (TakePost ω F b (c.take ⟨xw,⟨xv,xh,xo⟩,xd,xe⟩))):=h_ (fun w1 h1=>Lt ω w1 F b c D h1 hc.small ⟨xw,⟨xv,xh,xo⟩,xd,xe⟩ (by omega))
 simp only[ansA];go_enter func400,ntmps400;go_wp2;refine rT 4 ?_;simp only[sD,sE,sF,sG];repeat still_step
 refine wpStill_nil ?_;go_wp2_with (first
  |(go_at_call 391;refine(HW.o _ _ HBX.o.drew).mono ?_;rintro e w1 ⟨rfl,hs⟩;have q:=hs.right.blk;obtain⟨q0,q1,q2,q3,q4,q5⟩:=q.six;have qf:=q.frozen;have ql:=q.lt;have c11:=HST.o _ hs.blk;have HX:=h_ hs.swap.right)
  |(go_at_call 402;refine(HQ.o _ (by repeat' (first|(with_reducible first|refine Sat.drewN ?_ _|refine Sat.drew ?_|refine Sat.junk ?_ _)|exact HX.o))).mono ?_;rintro e w2 ⟨rfl,hs⟩;have HY:=h_ hs))
 go_end0;exact⟨rfl,HY.o⟩
theorem QS (b:Nat)(c:PCo)(h:Sat ω w (coH b c*F))(hc:c.wf)(a:PAns)(hf:(c.rule.hear a).fin=0)(hst:c.state=1):
  Calls prog 400 #[.pointer b,ansA a] w (TakePost ω F b (c.tell a)):=by
 have hq:c.rule.hear a=c.rule:=by
  revert hf;unfold PPat.hear;split<;>simp[PPat.stop]
 have HE:Hid (c.tell a=c.take a):=h_ (by obtain⟨r,me,stamp,seen,cells,stripes,was,state,at_,lock,now,writing,fin,by_,err⟩:=c;simp only at hst;subst hst;unfold PCo.tell;simp only;rw[if_neg (by simpa using hf)])
 rw[HE.o];obtain⟨D,h⟩:=h.of_ex;have h:=h.coOf;have lt:=h.blk.lt;obtain⟨xw,⟨xv,xh,xo⟩,xd,xe⟩:=a;have HBX:=h_ (DE h xw xv xh xo xd xe);have HW:=h_ (DC ω b c D xw xv xh xo xd xe);rw[hf,hq] at HW;have hf0:c.rule.fin=0:=by rw[←hq];exact hf
 have HST:Hid (∀w1,Blk w1 b 258 (coC c D)→w1.cell? (κ b 11)=some (.int .i64 ((1:Nat):Int))):=h_ (fun w1 h1=>hst▸h1.cell 11)
 have HQ:Hid (∀w1,Sat ω w1 (coB b c D*(coRows c D*F))→Calls prog 402 #[.pointer b,.agg #[υ xw,υ xv,.bool xh,xo,.bool xd,xe]] w1 (TakePost ω F b (c.take ⟨xw,⟨xv,xh,xo⟩,xd,xe⟩))):=h_ (fun w1 h1=>Lt ω w1 F b c D h1 hc.small ⟨xw,⟨xv,xh,xo⟩,xd,xe⟩ (by omega))
 simp only[ansA];go_enter func400,ntmps400;go_wp2;refine rT 4 ?_;simp only[sD,sE,sF,sG];repeat still_step
 refine wpStill_nil ?_;go_wp2_with (first
  |(go_at_call 391;refine(HW.o _ _ HBX.o.drew).mono ?_;rintro e w1 ⟨rfl,hs⟩;have q:=hs.right.blk;obtain⟨q0,q1,q2,q3,q4,q5⟩:=q.six;have qf:=q.frozen;have ql:=q.lt;have c11:=HST.o _ hs.blk;have HX:=h_ hs.swap.right)
  |(go_at_call 402;refine(HQ.o _ (by repeat' (first|(with_reducible first|refine Sat.drewN ?_ _|refine Sat.drew ?_|refine Sat.junk ?_ _)|exact HX.o))).mono ?_;rintro e w2 ⟨rfl,hs⟩;have HY:=h_ hs))
 go_end0;exact⟨rfl,HY.o⟩
theorem QR (b:Nat)(c:PCo)(h:Sat ω w (coH b c*F))(hc:c.wf)(a:PAns)(hf:(c.rule.hear a).fin=0)(hst:c.state=2):
  Calls prog 400 #[.pointer b,ansA a] w (TakePost ω F b (c.tell a)):=by
 have hq:c.rule.hear a=c.rule:=by
  revert hf;unfold PPat.hear;split<;>simp[PPat.stop]
 have HE:Hid (c.tell a=c.raise a):=h_ (by obtain⟨r,me,stamp,seen,cells,stripes,was,state,at_,lock,now,writing,fin,by_,err⟩:=c;simp only at hst;subst hst;unfold PCo.tell;simp only;rw[if_neg (by simpa using hf)])
 rw[HE.o];obtain⟨D,h⟩:=h.of_ex;have h:=h.coOf;have lt:=h.blk.lt;obtain⟨xw,⟨xv,xh,xo⟩,xd,xe⟩:=a;have HBX:=h_ (DE h xw xv xh xo xd xe);have HW:=h_ (DC ω b c D xw xv xh xo xd xe);rw[hf,hq] at HW;have hf0:c.rule.fin=0:=by rw[←hq];exact hf
 have HST:Hid (∀w1,Blk w1 b 258 (coC c D)→w1.cell? (κ b 11)=some (.int .i64 ((2:Nat):Int))):=h_ (fun w1 h1=>hst▸h1.cell 11)
 have HQ:Hid (∀w1,Sat ω w1 (coB b c D*(coRows c D*F))→Calls prog 403 #[.pointer b,.agg #[υ xw,υ xv,.bool xh,xo,.bool xd,xe]] w1 (TakePost ω F b (c.raise ⟨xw,⟨xv,xh,xo⟩,xd,xe⟩))):=h_ (fun w1 h1=>Iy ω w1 F b c D h1 ⟨xw,⟨xv,xh,xo⟩,xd,xe⟩ hc.small hc.pos hc.sorted (hc.full hf0 (by omega) (by omega)) hc.at_ (by omega) (by omega))
 simp only[ansA];go_enter func400,ntmps400;go_wp2;refine rT 4 ?_;simp only[sD,sE,sF,sG];repeat still_step
 refine wpStill_nil ?_;go_wp2_with (first
  |(go_at_call 391;refine(HW.o _ _ HBX.o.drew).mono ?_;rintro e w1 ⟨rfl,hs⟩;have q:=hs.right.blk;obtain⟨q0,q1,q2,q3,q4,q5⟩:=q.six;have qf:=q.frozen;have ql:=q.lt;have c11:=HST.o _ hs.blk;have HX:=h_ hs.swap.right)
  |(go_at_call 403;refine(HQ.o _ (by repeat' (first|(with_reducible first|refine Sat.drewN ?_ _|refine Sat.drew ?_|refine Sat.junk ?_ _)|exact HX.o))).mono ?_;rintro e w2 ⟨rfl,hs⟩;have HY:=h_ hs))
 go_end0;exact⟨rfl,HY.o⟩
theorem QQ (b:Nat)(c:PCo)(h:Sat ω w (coH b c*F))(hc:c.wf)(a:PAns)(hf:(c.rule.hear a).fin=0)(hst:c.state=3):
  Calls prog 400 #[.pointer b,ansA a] w (TakePost ω F b (c.tell a)):=by
 have hq:c.rule.hear a=c.rule:=by
  revert hf;unfold PPat.hear;split<;>simp[PPat.stop]
 have HE:Hid (c.tell a=c.raise a):=h_ (by obtain⟨r,me,stamp,seen,cells,stripes,was,state,at_,lock,now,writing,fin,by_,err⟩:=c;simp only at hst;subst hst;unfold PCo.tell;simp only;rw[if_neg (by simpa using hf)])
 rw[HE.o];obtain⟨D,h⟩:=h.of_ex;have h:=h.coOf;have lt:=h.blk.lt;obtain⟨xw,⟨xv,xh,xo⟩,xd,xe⟩:=a;have HBX:=h_ (DE h xw xv xh xo xd xe);have HW:=h_ (DC ω b c D xw xv xh xo xd xe);rw[hf,hq] at HW;have hf0:c.rule.fin=0:=by rw[←hq];exact hf
 have HST:Hid (∀w1,Blk w1 b 258 (coC c D)→w1.cell? (κ b 11)=some (.int .i64 ((3:Nat):Int))):=h_ (fun w1 h1=>hst▸h1.cell 11)
 have HQ:Hid (∀w1,Sat ω w1 (coB b c D*(coRows c D*F))→Calls prog 403 #[.pointer b,.agg #[υ xw,υ xv,.bool xh,xo,.bool xd,xe]] w1 (TakePost ω F b (c.raise ⟨xw,⟨xv,xh,xo⟩,xd,xe⟩))):=h_ (fun w1 h1=>Iy ω w1 F b c D h1 ⟨xw,⟨xv,xh,xo⟩,xd,xe⟩ hc.small hc.pos hc.sorted (hc.full hf0 (by omega) (by omega)) hc.at_ (by omega) (by omega))
 simp only[ansA];go_enter func400,ntmps400;go_wp2;refine rT 4 ?_;simp only[sD,sE,sF,sG];repeat still_step
 refine wpStill_nil ?_;go_wp2_with (first
  |(go_at_call 391;refine(HW.o _ _ HBX.o.drew).mono ?_;rintro e w1 ⟨rfl,hs⟩;have q:=hs.right.blk;obtain⟨q0,q1,q2,q3,q4,q5⟩:=q.six;have qf:=q.frozen;have ql:=q.lt;have c11:=HST.o _ hs.blk;have HX:=h_ hs.swap.right)
  |(go_at_call 403;refine(HQ.o _ (by repeat' (first|(with_reducible first|refine Sat.drewN ?_ _|refine Sat.drew ?_|refine Sat.junk ?_ _)|exact HX.o))).mono ?_;rintro e w2 ⟨rfl,hs⟩;have HY:=h_ hs))
 go_end0;exact⟨rfl,HY.o⟩
theorem QP (b:Nat)(c:PCo)(h:Sat ω w (coH b c*F))(hc:c.wf)(a:PAns)(hf:(c.rule.hear a).fin=0)(hst:c.state=4):
  Calls prog 400 #[.pointer b,ansA a] w (TakePost ω F b (c.tell a)):=by
 have hq:c.rule.hear a=c.rule:=by
  revert hf;unfold PPat.hear;split<;>simp[PPat.stop]
 have HE:Hid (c.tell a=c.proved a.lock):=h_ (by obtain⟨r,me,stamp,seen,cells,stripes,was,state,at_,lock,now,writing,fin,by_,err⟩:=c;simp only at hst;subst hst;unfold PCo.tell;simp only;rw[if_neg (by simpa using hf)])
 rw[HE.o];obtain⟨D,h⟩:=h.of_ex;have h:=h.coOf;have lt:=h.blk.lt;obtain⟨xw,⟨xv,xh,xo⟩,xd,xe⟩:=a;have HBX:=h_ (DE h xw xv xh xo xd xe);have HW:=h_ (DC ω b c D xw xv xh xo xd xe);rw[hf,hq] at HW;have hf0:c.rule.fin=0:=by rw[←hq];exact hf
 have HST:Hid (∀w1,Blk w1 b 258 (coC c D)→w1.cell? (κ b 11)=some (.int .i64 ((4:Nat):Int))):=h_ (fun w1 h1=>hst▸h1.cell 11)
 have HQ:Hid (∀w1,Sat ω w1 (coB b c D*(coRows c D*F))→Calls prog 404 #[.pointer b,.agg #[υ xv,.bool xh,xo]] w1 (TakePost ω F b (c.proved ⟨xv,xh,xo⟩))):=h_ (fun w1 h1=>Nu ω w1 F b c D h1 hc.small hc.pos hc.sorted (hc.full hf0 (by omega) (by omega)) (hc.ok.seen hf0 hst) ⟨xv,xh,xo⟩)
 simp only[ansA];go_enter func400,ntmps400;go_wp2;refine rT 4 ?_;simp only[sD,sE,sF,sG];repeat still_step
 refine wpStill_nil ?_;go_wp2_with (first
  |(go_at_call 391;refine(HW.o _ _ HBX.o.drew).mono ?_;rintro e w1 ⟨rfl,hs⟩;have q:=hs.right.blk;obtain⟨q0,q1,q2,q3,q4,q5⟩:=q.six;have qf:=q.frozen;have ql:=q.lt;have c11:=HST.o _ hs.blk;have HX:=h_ hs.swap.right)
  |(go_at_call 404;refine(HQ.o _ (by repeat' (first|(with_reducible first|refine Sat.drewN ?_ _|refine Sat.drew ?_|refine Sat.junk ?_ _)|exact HX.o))).mono ?_;rintro e w2 ⟨rfl,hs⟩;have HY:=h_ hs))
 go_end0;exact⟨rfl,HY.o⟩
theorem QO (b:Nat)(c:PCo)(h:Sat ω w (coH b c*F))(hc:c.wf)(a:PAns)(hf:(c.rule.hear a).fin=0)(hst:c.state=5):
  Calls prog 400 #[.pointer b,ansA a] w (TakePost ω F b (c.tell a)):=by
 have hq:c.rule.hear a=c.rule:=by
  revert hf;unfold PPat.hear;split<;>simp[PPat.stop]
 have HE:Hid (c.tell a={c with at_:=c.at_+1}.write):=h_ (by obtain⟨r,me,stamp,seen,cells,stripes,was,state,at_,lock,now,writing,fin,by_,err⟩:=c;simp only at hst;subst hst;unfold PCo.tell;simp only;rw[if_neg (by simpa using hf)])
 rw[HE.o];obtain⟨D,h⟩:=h.of_ex;have h:=h.coOf;have lt:=h.blk.lt;obtain⟨xw,⟨xv,xh,xo⟩,xd,xe⟩:=a;have HBX:=h_ (DE h xw xv xh xo xd xe);have HW:=h_ (DC ω b c D xw xv xh xo xd xe);rw[hf,hq] at HW;have hf0:c.rule.fin=0:=by rw[←hq];exact hf
 have HST:Hid (∀w1,Blk w1 b 258 (coC c D)→w1.cell? (κ b 11)=some (.int .i64 ((5:Nat):Int))):=h_ (fun w1 h1=>hst▸h1.cell 11)
 have HQ:Hid (∀w1,Sat ω w1 (coB b {c with at_:=c.at_+1} D*(coRows c D*F))→Calls prog 405 #[.pointer b] w1 (TakePost ω F b {c with at_:=c.at_+1}.write)):=h_ (fun w1 h1=>(It ω w1 _ b {c with at_:=c.at_+1} D h1).mono fun e w' h2=>⟨h2.1,Sat.coTo (D:=D) (by rw[Hb];exact h2.2)⟩)
 have HA:Hid (∀w1,Sat ω w1 (coB b c D*(coRows c D*F))→Sat ω (w1.setCell (κ b 12) (.int .i64 ((c.at_:Int)+1))) (coB b {c with at_:=c.at_+1} D*(coRows c D*F))):=h_ (fun w1 h1=>h1.put 12 _ rfl)
 have hat:=hc.at_;simp only[ansA];go_enter func400,ntmps400;go_wp2;refine rT 4 ?_;simp only[sD,sE,sF,sG];repeat still_step
 refine wpStill_nil ?_;go_wp2_with (first
  |(go_at_call 391;refine(HW.o _ _ HBX.o.drew).mono ?_;rintro e w1 ⟨rfl,hs⟩;have q:=hs.right.blk;obtain⟨q0,q1,q2,q3,q4,q5⟩:=q.six;have qf:=q.frozen;have ql:=q.lt;have c11:=HST.o _ hs.blk;have c12:=hs.blk.c 12;have fz:=hs.blk.frozen;have lt2:=hs.blk.lt;have HX:=h_ hs.swap.right)
  |(go_at_call 405;refine(HQ.o _ (by repeat' (first|(with_reducible first|refine Sat.drewN ?_ _|refine Sat.drew ?_|refine Sat.junk ?_ _)|exact HA.o _ HX.o))).mono ?_;rintro e w2 ⟨rfl,hs⟩;have HY:=h_ hs))
 go_end0;exact⟨rfl,HY.o⟩
theorem QN (b:Nat)(c:PCo)(h:Sat ω w (coH b c*F))(hc:c.wf)(a:PAns)(hf:(c.rule.hear a).fin=0)(hst:c.state=6):
  Calls prog 400 #[.pointer b,ansA a] w (TakePost ω F b (c.tell a)):=by
 have hq:c.rule.hear a=c.rule:=by
  revert hf;unfold PPat.hear;split<;>simp[PPat.stop]
 have HE:Hid (c.tell a={c with at_:=c.at_+1}.give):=h_ (by obtain⟨r,me,stamp,seen,cells,stripes,was,state,at_,lock,now,writing,fin,by_,err⟩:=c;simp only at hst;subst hst;unfold PCo.tell;simp only;rw[if_neg (by simpa using hf)])
 rw[HE.o];obtain⟨D,h⟩:=h.of_ex;have h:=h.coOf;have lt:=h.blk.lt;obtain⟨xw,⟨xv,xh,xo⟩,xd,xe⟩:=a;have HBX:=h_ (DE h xw xv xh xo xd xe);have HW:=h_ (DC ω b c D xw xv xh xo xd xe);rw[hf,hq] at HW;have hf0:c.rule.fin=0:=by rw[←hq];exact hf
 have HST:Hid (∀w1,Blk w1 b 258 (coC c D)→w1.cell? (κ b 11)=some (.int .i64 ((6:Nat):Int))):=h_ (fun w1 h1=>hst▸h1.cell 11)
 have HQ:Hid (∀w1,Sat ω w1 (coB b {c with at_:=c.at_+1} D*(coRows c D*F))→Calls prog 406 #[.pointer b] w1 (TakePost ω F b {c with at_:=c.at_+1}.give)):=h_ (fun w1 h1=>(Lx ω w1 _ b {c with at_:=c.at_+1} D h1).mono fun e w' h2=>⟨h2.1,Sat.coTo (D:=D) (by rw[JD];exact h2.2)⟩)
 have HA:Hid (∀w1,Sat ω w1 (coB b c D*(coRows c D*F))→Sat ω (w1.setCell (κ b 12) (.int .i64 ((c.at_:Int)+1))) (coB b {c with at_:=c.at_+1} D*(coRows c D*F))):=h_ (fun w1 h1=>h1.put 12 _ rfl)
 have hat:=hc.at_;simp only[ansA];go_enter func400,ntmps400;go_wp2;refine rT 4 ?_;simp only[sD,sE,sF,sG];repeat still_step
 refine wpStill_nil ?_;go_wp2_with (first
  |(go_at_call 391;refine(HW.o _ _ HBX.o.drew).mono ?_;rintro e w1 ⟨rfl,hs⟩;have q:=hs.right.blk;obtain⟨q0,q1,q2,q3,q4,q5⟩:=q.six;have qf:=q.frozen;have ql:=q.lt;have c11:=HST.o _ hs.blk;have c12:=hs.blk.c 12;have fz:=hs.blk.frozen;have lt2:=hs.blk.lt;have HX:=h_ hs.swap.right)
  |(go_at_call 406;refine(HQ.o _ (by repeat' (first|(with_reducible first|refine Sat.drewN ?_ _|refine Sat.drew ?_|refine Sat.junk ?_ _)|exact HA.o _ HX.o))).mono ?_;rintro e w2 ⟨rfl,hs⟩;have HY:=h_ hs))
 go_end0;exact⟨rfl,HY.o⟩
theorem QM (b:Nat)(c:PCo)(h:Sat ω w (coH b c*F))(hc:c.wf)(a:PAns)(hf:(c.rule.hear a).fin=0)(hst:c.state=7):
  Calls prog 400 #[.pointer b,ansA a] w (TakePost ω F b (c.tell a)):=by
 have hq:c.rule.hear a=c.rule:=by
  revert hf;unfold PPat.hear;split<;>simp[PPat.stop]
 have HE:Hid (c.tell a={c with at_:=c.at_+1}.leave):=h_ (by obtain⟨r,me,stamp,seen,cells,stripes,was,state,at_,lock,now,writing,fin,by_,err⟩:=c;simp only at hst;subst hst;unfold PCo.tell;simp only;rw[if_neg (by simpa using hf)])
 rw[HE.o];obtain⟨D,h⟩:=h.of_ex;have h:=h.coOf;have lt:=h.blk.lt;obtain⟨xw,⟨xv,xh,xo⟩,xd,xe⟩:=a;have HBX:=h_ (DE h xw xv xh xo xd xe);have HW:=h_ (DC ω b c D xw xv xh xo xd xe);rw[hf,hq] at HW;have hf0:c.rule.fin=0:=by rw[←hq];exact hf
 have HST:Hid (∀w1,Blk w1 b 258 (coC c D)→w1.cell? (κ b 11)=some (.int .i64 ((7:Nat):Int))):=h_ (fun w1 h1=>hst▸h1.cell 11)
 have HQ:Hid (∀w1,Sat ω w1 (coB b {c with at_:=c.at_+1} D*(coRows c D*F))→Calls prog 407 #[.pointer b] w1 (TakePost ω F b {c with at_:=c.at_+1}.leave)):=h_ (fun w1 h1=>(JA ω w1 _ b {c with at_:=c.at_+1} D h1).mono fun e w' h2=>⟨h2.1,Sat.coTo (D:=D) (by rw[Hc];exact h2.2)⟩)
 have HA:Hid (∀w1,Sat ω w1 (coB b c D*(coRows c D*F))→Sat ω (w1.setCell (κ b 12) (.int .i64 ((c.at_:Int)+1))) (coB b {c with at_:=c.at_+1} D*(coRows c D*F))):=h_ (fun w1 h1=>h1.put 12 _ rfl)
 have hat:=hc.at_;simp only[ansA];go_enter func400,ntmps400;go_wp2;refine rT 4 ?_;simp only[sD,sE,sF,sG];repeat still_step
 refine wpStill_nil ?_;go_wp2_with (first
  |(go_at_call 391;refine(HW.o _ _ HBX.o.drew).mono ?_;rintro e w1 ⟨rfl,hs⟩;have q:=hs.right.blk;obtain⟨q0,q1,q2,q3,q4,q5⟩:=q.six;have qf:=q.frozen;have ql:=q.lt;have c11:=HST.o _ hs.blk;have c12:=hs.blk.c 12;have fz:=hs.blk.frozen;have lt2:=hs.blk.lt;have HX:=h_ hs.swap.right)
  |(go_at_call 407;refine(HQ.o _ (by repeat' (first|(with_reducible first|refine Sat.drewN ?_ _|refine Sat.drew ?_|refine Sat.junk ?_ _)|exact HA.o _ HX.o))).mono ?_;rintro e w2 ⟨rfl,hs⟩;have HY:=h_ hs))
 go_end0;exact⟨rfl,HY.o⟩
theorem So (b:Nat)(c:PCo)(h:Sat ω w (coH b c*F))(hc:c.wf)(a:PAns):
  Calls prog 400 #[.pointer b,ansA a] w (TakePost ω F b (c.tell a)):=by
 by_cases hf:(c.rule.hear a).fin=0
 ·have h7:=hc.ok.state;rcases(by omega:c.state=0∨c.state=1∨c.state=2∨c.state=3∨c.state=4∨c.state=5∨c.state=6∨c.state=7) with k|k|k|k|k|k|k|k
  ·exact QT ω w F b c h hc a hf k
  ·exact QS ω w F b c h hc a hf k
  ·exact QR ω w F b c h hc a hf k
  ·exact QQ ω w F b c h hc a hf k
  ·exact QP ω w F b c h hc a hf k
  ·exact QO ω w F b c h hc a hf k
  ·exact QN ω w F b c h hc a hf k
  ·exact QM ω w F b c h hc a hf k
 ·exact Iu ω w F b c h hc a hf
end
section
open Go.RowKit Go.Lib
theorem UV:∀(l m:List Int),l.Pairwise (· < ·)→m.Pairwise (· < ·)→(∀x,x∈l↔x∈m)→l=m:=by
 intro l;induction l with
 |nil =>
  intro m _ _ h;cases m with
  |nil=>rfl
  |cons y m=>exact absurd ((h y).2 (by simp)) (by simp)
 |cons x l ih =>
  intro m hl hm h;cases m with
  |nil=>exact absurd ((h x).1 (by simp)) (by simp)
  |cons y m =>
   obtain⟨hl1,hl2⟩:=List.pairwise_cons.1 hl;obtain⟨hm1,hm2⟩:=List.pairwise_cons.1 hm;have e:x=y:=by
    rcases List.mem_cons.1 ((h x).1 (by simp)) with h1|h1
    ·exact h1
    ·rcases List.mem_cons.1 ((h y).2 (by simp)) with h2|h2
     ·exact h2.symm
     ·have:=hm1 x h1
      have:=hl1 y h2
      omega
   subst e;rw[ih m hl2 hm2 (fun z=>?_)]
   have hz:=h z;simp only[List.mem_cons] at hz;constructor
   ·intro h1;rcases hz.1 (.inr h1) with h2|h2
    ·have:=hl1 z h1;omega
    ·exact h2
   ·intro h1;rcases hz.2 (.inr h1) with h2|h2
    ·have:=hm1 z h1;omega
    ·exact h2
theorem Ko (d:Array Int)(hs:∀i j,i<j→j<d.size→d[i]!≤d[j]!):∀m,m≤d.size→(compactUpTo d m).Pairwise (· < ·)∧(∀x,x∈compactUpTo d m↔∃j,j<m∧d[j]! = x):=by
 intro m;induction m with
 |zero=>intro _;exact⟨by simp[compactUpTo],fun x=>by simp[compactUpTo]⟩
 |succ m ih =>
  intro hm;obtain⟨h1,h2⟩:=ih (by omega)
  rw[compactUpTo_succ];by_cases hk:keeps d m=true
  ·rw[if_pos hk];refine⟨List.pairwise_append.2 ⟨h1,by simp,fun x hx y hy=>?_⟩,fun x=>?_⟩
   ·simp at hy;subst hy;obtain⟨j,hj,rfl⟩:=(h2 x).1 hx;have hm0:m≠0:=by omega
    have hne:d[m]!≠d[m-1]!:=by
     simpa [keeps,hm0] using hk
    have l1:=hs (m-1) m (by omega) (by omega)
    rcases Nat.lt_or_ge j (m-1) with hj2|hj2
    ·have:=hs j (m-1) hj2 (by omega);omega
    ·obtain rfl:j=m-1:=by omega
     omega
   ·rw[List.mem_append,h2];constructor
    ·rintro(⟨j,hj,e⟩|e)
     ·exact⟨j,by omega,e⟩
     ·simp at e;exact⟨m,by omega,e.symm⟩
    ·rintro⟨j,hj,e⟩;rcases Nat.lt_or_ge j m with hj2|hj2
     ·exact .inl ⟨j,hj2,e⟩
     ·obtain rfl:j=m:=by omega
      exact .inr (by simp[e])
  ·rw[if_neg hk];simp only[List.append_nil];refine⟨h1,fun x=>?_⟩
   rw[h2];constructor
   ·rintro⟨j,hj,e⟩;exact⟨j,by omega,e⟩
   ·rintro⟨j,hj,e⟩;rcases Nat.lt_or_ge j m with hj2|hj2
    ·exact⟨j,hj2,e⟩
    ·obtain rfl:j=m:=by omega
     have hk2:j≠0∧d[j]! = d[j-1]!:=by simpa [keeps,not_or] using hk
     exact⟨j-1,by omega,hk2.2▸e⟩
theorem BV (x y:Nat)(l:List Nat):y∈insUp x l↔y=x∨y∈l:=by
 induction l with
 |nil=>simp[insUp]
 |cons z l ih =>
  unfold insUp;split
  ·simp
  ·split
   ·rename_i h;subst h;simp
   ·simp only[List.mem_cons,ih];constructor
    ·rintro(h|h|h)
     ·exact .inr (.inl h)
     ·exact .inl h
     ·exact .inr (.inr h)
    ·rintro(h|h|h)
     ·exact .inr (.inl h)
     ·exact .inl h
     ·exact .inr (.inr h)
theorem Er (x:Nat)(l:List Nat)(h:l.Pairwise (· < ·)):(insUp x l).Pairwise (· < ·):=by
 induction l with
 |nil=>simp[insUp]
 |cons z l ih =>
  obtain⟨h1,h2⟩:=List.pairwise_cons.1 h;unfold insUp;split
  ·rename_i hx;refine List.pairwise_cons.2 ⟨fun y hy=>?_,h⟩
   rcases List.mem_cons.1 hy with rfl|hy
   ·exact hx
   ·have:=h1 y hy;omega
  ·split
   ·exact h
   ·rename_i hx hz;refine List.pairwise_cons.2 ⟨fun y hy=>?_,ih h2⟩
    rcases(BV x y l).1 hy with rfl|hy
    ·omega
    ·exact h1 y hy
theorem ER (n wide:Nat)(l:List (Nat×Nat)):(stripesOf l n wide).Pairwise (· < ·)∧∀x,x∈stripesOf l n wide↔∃c∈l,stripeOf c.1 n wide=x:=by
 have key:∀(l:List (Nat×Nat)) (acc:List Nat),acc.Pairwise (· < ·)→(l.foldl (fun acc c=>insUp (stripeOf c.1 n wide) acc) acc).Pairwise (· < ·)∧∀x,x∈l.foldl (fun acc c=>insUp (stripeOf c.1 n wide) acc) acc↔x∈acc∨∃c∈l,stripeOf c.1 n wide=x:=by
  intro l;induction l with
  |nil=>intro acc h;exact⟨h,fun x=>by simp⟩
  |cons c l ih =>
   intro acc h;obtain⟨h1,h2⟩:=ih (insUp (stripeOf c.1 n wide) acc) (Er _ _ h);refine⟨h1,fun x=>?_⟩
   rw[List.foldl_cons,h2,BV];simp only[List.mem_cons,exists_eq_or_imp];constructor
   ·rintro((h|h)|h)
    ·exact .inr (.inl h.symm)
    ·exact .inl h
    ·exact .inr (.inr h)
   ·rintro(h|h|h)
    ·exact .inl (.inr h)
    ·exact .inl (.inl h.symm)
    ·exact .inr h
 obtain⟨h1,h2⟩:=key l [] List.Pairwise.nil;exact⟨h1,fun x=>by unfold stripesOf;rw[h2];simp⟩
theorem Dv (l:List (Nat×Nat))(n wide:Nat):compact ((zI (l.map fun c=>stripeOf c.1 n wide)).mergeSort fun x y=>decide (x≤y))=zI (stripesOf l n wide):=by
 obtain⟨s,hs⟩:∃s,(zI (l.map fun c=>stripeOf c.1 n wide)).mergeSort (fun x y=>decide (x≤y))=s:=⟨_,rfl⟩
 have hp:s.Perm (zI (l.map fun c=>stripeOf c.1 n wide)):=hs▸List.mergeSort_perm _ _
 have ho:s.Pairwise (fun x y=>decide (x≤y)=true):=hs▸List.pairwise_mergeSort (le:=fun x y:Int=>decide (x≤y)) (fun a b c h1 h2=>by simp at *;omega) (fun a b=>by simp;omega) _
 rw[hs];unfold compact;have hso:∀i j,i<j→j<s.toArray.size→s.toArray[i]!≤s.toArray[j]!:=by
  intro i j h1 h2;have h2':j<s.length:=by simpa using h2
  have:=List.pairwise_iff_getElem.1 ho i j (by omega) h2' h1
  have h3:i<s.length:=by omega
  rw[getElem!_pos s.toArray i (by simpa using h3),getElem!_pos s.toArray j h2]
  simpa using this
 obtain⟨h1,h2⟩:=Ko s.toArray hso s.length (by simp)
 obtain⟨h3,h4⟩:=ER n wide l;refine UV _ _ h1 ?_ fun x=>?_
 ·unfold zI;rw[List.pairwise_map];exact h3.imp fun h=>by omega
 ·rw[h2];have hm:(∃j,j<s.length∧s.toArray[j]! = x)↔x∈s:=by
   rw[List.mem_iff_getElem];constructor
   ·rintro⟨j,hj,e⟩;refine⟨j,hj,?_⟩;rw[getElem!_pos s.toArray j (by simpa using hj)] at e
    simpa using e
   ·rintro⟨j,hj,e⟩;refine⟨j,hj,?_⟩;rw[getElem!_pos s.toArray j (by simpa using hj)]
    simpa using e
  rw[hm,hp.mem_iff];simp only[zI,List.mem_map];constructor
  ·rintro⟨a,⟨c,hc,rfl⟩,rfl⟩;exact⟨_,(h4 _).2 ⟨c,hc,rfl⟩,rfl⟩
  ·rintro⟨a,ha,rfl⟩;obtain⟨c,hc,e⟩:=(h4 a).1 ha;exact⟨a,⟨c,hc,e⟩,rfl⟩
end
section
open Go.RowKit Go.Lib Go.Sort
section
variable {ω w : World} {F : HP}
theorem Sat.ahead (h:Sat ω w F)(q:Nat):Sat ω (Go.Sort.ahead w q) F:=h.keep rfl rfl rfl fun _ _=>rfl
theorem Sat.grow (h:Sat ω w F)(os:Array Obj):Sat ω (Go.Sort.grow w os) F:=h.keep rfl rfl rfl fun k hk=>by
 show(w.heap++os)[k]?=_
 rw[Array.getElem?_append_left hk]
theorem Sat.mapBlock {g:Nat}{t:TypeId}{cs:Array Value}(h:Sat ω w (bk g t cs*F))(f:Array Value→Array Value):Sat ω (Go.Sort.mapBlock w g f) (bk g t (f cs)*F):=by
 have hb:=h.blk;obtain⟨x,hx,a,y,hd,rfl,rfl,hf⟩:=h.part;refine⟨h.os,h.tape,h.output,_,fun k o hk=>?_,_,y,fun k=>?_,rfl,rfl,hf⟩
 ·show(w.heap.modify g _)[k]?=_
  rw[Array.getElem?_modify];by_cases e:k=g
  ·subst e;simp at hk;have hb':w.heap[k]?=some (.cells cs t (0,0)):=hb;simp[hb',Go.Sort.onCells,hk]
  ·simp[e] at hk;rw[if_neg (fun h=>e h.symm)]
   exact hx k o (by simp[e,hk])
 ·have:=hd k
  by_cases e:k=g
  ·right;simp[e] at this;rw[e];exact this
  ·left;simp[e]
end
theorem Fi (l:List Nat):vI l=(zI l).map (Value.int .i64):=by
 induction l with
 |nil=>rfl
 |cons x l ih=>rw[vI,List.flatMap_cons];simp only[zI,List.map_cons,inV,List.cons_append,List.nil_append];rw[←vI,ih];rfl
theorem FP (zs:List Int)(cs:Array Value)(h:zs.length≤cs.size):(Go.Sort.putCells (Value.int .i64) 0 zs.toArray cs).toList.take zs.length=zs.map (Value.int .i64):=by
 apply List.ext_getElem?;intro i;rw[List.getElem?_take];by_cases hi:i<zs.length
 ·rw[if_pos hi,Array.getElem?_toList];unfold Go.Sort.putCells;rw[Array.getElem?_mapIdx];have h2:i<cs.size:=by omega
  simp[Array.getElem?_eq_getElem h2,hi]
 ·rw[if_neg hi];simp[List.getElem?_eq_none (show zs.length≤i by omega)]
theorem Sat.putInts {ω w:World}{F:HP}{g n c:Nat}{xs:List Value}(h:Sat ω w (row 3 1 (.slice (some ⟨g,0,none⟩) n c) n xs*F))(zs:List Int)(hz:zs.length=n):Sat ω (Go.Sort.putRow (Value.int .i64) w g 0 zs.toArray) (row 3 1 (.slice (some ⟨g,0,none⟩) n c) n (zs.map (Value.int .i64))*F):=by
 rcases h.cases with⟨h1,_⟩|⟨g',cap,cur,h1,h2,h3,h4,h5,h6,h7⟩
 ·cases h1
 ·injection h1 with h1 _ h1c
  injection h1 with h1
  injection h1 with h1
  subst h1 h1c;have h8:=h7.mapBlock (Go.Sort.putCells (Value.int .i64) 0 zs.toArray);refine h8.impL fun y hy=>⟨by simp[hz],.inr ⟨g,c,_,rfl,h2,h3,by simp[Go.Sort.putCells,h4],?_,hy⟩⟩
  rw[Nat.mul_one,←hz];exact FP zs cur (by rw[h4,hz];omega)
theorem Sat.holdsInts {ω w:World}{F:HP}{g n c:Nat}{zs:List Int}(h:Sat ω w (row 3 1 (.slice (some ⟨g,0,none⟩) n c) n (zs.map (Value.int .i64))*F)):Go.Sort.Holds (Value.int .i64) w g 0 zs.toArray∧g<w.heap.size∧n≤c∧zs.length=n:=by
 rcases h.cases with⟨h1,_⟩|⟨g',cap,cur,h1,h2,h3,h4,h5,h6,h7⟩
 ·cases h1
 ·injection h1 with h1 _ h1c
  injection h1 with h1
  injection h1 with h1
  subst h1 h1c;have hl:zs.length=n:=by simpa using h6
  refine⟨fun j hj=>?_,h7.blk.lt,h2,hl⟩
  have hj':j<zs.length:=by simpa using hj
  rw[Nat.zero_add];refine⟨?_,h7.blk.frozen j⟩;rw[h7.blk.cell,←Array.getElem?_toList];have h9:(cur.toList.take (n*1))[j]?=(zs.map (Value.int .i64))[j]?:=by rw[h5]
  rw[List.getElem?_take,if_pos (by omega)] at h9
  rw[h9,getElem!_pos zs.toArray j hj];simp[hj']
theorem Sat.rowCut {ω w:World}{F:HP}{e:TypeId}{size g n c m:Nat}{xs:List Value}(h:Sat ω w (row e size (.slice (some ⟨g,0,none⟩) n c) n xs*F))(hm:m≤n):Sat ω w (row e size (.slice (some ⟨g,0,none⟩) m c) m (xs.take (m*size))*F):=by
 rcases h.cases with⟨h1,_⟩|⟨g',cap,cur,h1,h2,h3,h4,h5,h6,h7⟩
 ·cases h1
 ·injection h1 with h1 _ h1c
  subst h1c;injection h1 with h1
  injection h1 with h1
  subst h1;refine h7.impL fun y hy=>Cc (Nat.le_trans hm h2) h3 h4 ?_ y hy
  rw[←h5,List.take_take,Nat.min_eq_left (Nat.mul_le_mul_right _ hm)]
theorem Cs (w:World)(n:Nat)(h1:1≤n)(h2:n≤16):Calls prog 80 #[n,ι 16] w fun e w'=>e=.returned n∧w=w':=by
 rcases(by omega:n=1∨n=16∨(2≤n∧n≤15)) with rfl|rfl|⟨h3,h4⟩
 ·go_enter func80,ntmps80;go_wp2;go_ret;exact⟨rfl,rfl⟩
 ·go_enter func80,ntmps80;go_wp2;go_ret;exact⟨rfl,rfl⟩
 ·have g1:(1:Int)<(n:Int):=by omega
  have g2:(n:Int)<16:=by omega
  have HM:Hid (max 1 (min (n:Int) 16)=(n:Int)):=h_ (by omega)
  go_enter func80,ntmps80;go_wp2;go_ret;refine⟨?_,rfl⟩;show Ending.returned (.int .i64 (max 1 (min (n:Int) 16)))=_
  rw[HM.o]
theorem PJ (w:World)(at_ n wide:Nat)(h0:at_≤1000000)(h1:1≤n)(h2:n≤16)(h3:1≤wide)(h4:wide≤16):Calls prog 159 #[at_,n,wide] w fun e w'=>e=.returned (.int .i64 ((stripeOf at_ n wide:Nat):Int))∧∃q,w'=w.drewN q:=by
 have HN:=h_ (fun w1=>Cs w1 n h1 h2)
 have HW:=h_ (fun w1=>Cs w1 wide h3 h4)
 have HE:Hid (((stripeOf at_ n wide:Nat):Int)=((at_:Int) / (wide:Int))%(n:Int)):=h_ (by unfold stripeOf;simp)
 rw[HE.o];have d1:0≤(at_:Int) / (wide:Int):=Int.ediv_nonneg (by omega) (by omega)
 have d2:(at_:Int) / (wide:Int)≤1000000:=Int.le_trans (Int.ediv_le_self _ (by omega)) (by omega)
 go_enter func159,ntmps159;go_wp2;go_quiet ((first|(go_at_call 80;exact Calls.quiet_of_same ((HW.o _).mono fun _ _ h=>⟨h.1,h.2.symm⟩))|(go_at_call 80;exact Calls.quiet_of_same ((HN.o _).mono fun _ _ h=>⟨h.1,h.2.symm⟩))))
 go_wp2;go_ret;exact⟨rfl,_,rfl⟩
theorem Jk (ω w:World)(F:HP)(g n c:Nat)(zs:List Int)(hn:n≤1000000)(h:Sat ω w (row 3 1 (.slice (some ⟨g,0,none⟩) n c) n (zs.map (Value.int .i64))*F)):
  Calls prog 192 #[.slice (some ⟨g,0,none⟩) n c] w (Rets ω F (.tuple #[]) (row 3 1 (.slice (some ⟨g,0,none⟩) n c) n ((zs.mergeSort fun x y=>decide (x≤y)).map (Value.int .i64)))):=by
 obtain⟨h1,h2,h3,h4⟩:=h.holdsInts;subst h4;refine(Tryz.slices_Sort_int g 0 c zs w h1 h2 (by omega)).mono fun e w' ⟨he,m,os,hw⟩=>⟨he,?_⟩
 rw[hw];exact Sat.grow ((h.ahead m).putInts _ (by simp)) os
theorem Fa (ω w:World)(F:HP)(g n c:Nat)(zs:List Int)(hn:n≤1000000)(h:Sat ω w (row 3 1 (.slice (some ⟨g,0,none⟩) n c) n (zs.map (Value.int .i64))*F)):
  Calls prog 193 #[.slice (some ⟨g,0,none⟩) n c] w (RetR ω F 3 1 (compact zs).length ((compact zs).map (Value.int .i64))):=by
 obtain⟨h1,h2,h3,h4⟩:=h.holdsInts;subst h4;refine(Tryz.slices_Compact_int g 0 c zs w h1 (by omega) h3).mono fun e w' ⟨he,m,hw⟩=>⟨_,_,he,?_⟩
 rw[hw];have hl:=compact_length_le zs;have h5:=((h.ahead m).putInts (compact zs++List.replicate (zs.length-(compact zs).length) 0) (by simp;omega)).rowCut (m:=(compact zs).length) hl
 rw[List.map_append,Nat.mul_one,List.take_left' (by simp)] at h5
 exact h5
theorem Mf (ω w:World)(F:HP)(A:Option Addr)(n c:Nat)(zs:List Int)(hn:n≤1000000)(h:Sat ω w (row 3 1 (.slice A n c) n (zs.map (Value.int .i64))*F)):
  Calls prog 192 #[.slice A n c] w (Rets ω F (.tuple #[]) (row 3 1 (.slice A n c) n ((zs.mergeSort fun x y=>decide (x≤y)).map (Value.int .i64)))):=by
 rcases h.cases with⟨h1,h2,h3,_⟩|⟨g,cap,cur,h1,_⟩
 ·injection h1 with h1 _ h1c
  subst h1 h1c h2;have hz:zs=[]:=by simpa using h3
  subst hz;exact(Tryz.slices_Sort_int_none _ _ w).mono fun e w' ⟨he,hw⟩=>⟨he,by rw[hw,List.mergeSort_nil];exact h⟩
 ·injection h1 with h1 _ _
  subst h1;exact Jk ω w F g n c zs hn h
theorem Gr (ω w:World)(F:HP)(A:Option Addr)(n c:Nat)(zs:List Int)(hn:n≤1000000)(h:Sat ω w (row 3 1 (.slice A n c) n (zs.map (Value.int .i64))*F)):
  Calls prog 193 #[.slice A n c] w (RetR ω F 3 1 (compact zs).length ((compact zs).map (Value.int .i64))):=by
 rcases h.cases with⟨h1,h2,h3,_⟩|⟨g,cap,cur,h1,_⟩
 ·injection h1 with h1 _ h1c
  subst h1 h1c h2;have hz:zs=[]:=by simpa using h3
  subst hz;exact(Tryz.slices_Compact_int_empty _ _ w).mono fun e w' ⟨he,hw⟩=>⟨none,0,he,hw▸h⟩
 ·injection h1 with h1 _ _
  subst h1;exact Fa ω w F g n c zs hn h
theorem LQ (l:List Nat)(x:Nat):vI (l++[x])=vI l++[.int .i64 x]:=by simp[vI,inV]
def strs (l:List (Nat×Nat))(n wide k:Nat):List Nat:=(l.take k).map fun c=>stripeOf c.1 n wide
theorem Md (l:List (Nat×Nat))(n wide:Nat):strs l n wide 0=[]:=by simp[strs]
theorem Oj (l:List (Nat×Nat))(n wide k:Nat)(h:k≤l.length):(strs l n wide k).length=k:=by simp[strs];omega
theorem Me (l:List (Nat×Nat))(n wide k:Nat)(h:k<l.length):strs l n wide (k+1)=strs l n wide k++[stripeOf (l.getD k (0,0)).1 n wide]:=by
 unfold strs;rw[List.take_succ_eq_append_getElem h,List.map_append,gD,List.getElem?_eq_getElem h];rfl
theorem Hw (ω w:World)(F:HP)(l:List (Nat×Nat))(A:Option Addr)(c n wide:Nat)(h:Sat ω w (row 54 2 (.slice A l.length c) l.length (vS l)*F))(hl:l.length≤1000)(ha:∀x∈l,x.1≤1000000)(h1:1≤n)(h2:n≤16)(h3:1≤wide)(h4:wide≤16):
  Calls prog 163 #[.slice A l.length c,n,wide] w (RetR ω (row 54 2 (.slice A l.length c) l.length (vS l)*F) 3 1 (stripesOf l n wide).length (vI (stripesOf l n wide))):=by
 obtain⟨G,hG⟩:∃G,G=row 54 2 (.slice A l.length c) l.length (vS l)*F:=⟨_,rfl⟩;rw[←hG] at h ⊢;obtain⟨N,hN⟩:∃N,l.length=N:=⟨_,rfl⟩;obtain⟨i0,hi,hz⟩:=Option.map_eq_some_iff.1 Et;simp only[Prod.mk.injEq] at hz;obtain⟨hz0,hz1,hz2⟩:=hz;have HI:=h_ hi;have HZ0:=h_ hz0;have HZ1:=h_ hz1;have HZ2:=h_ hz2;have HOF:Hid (∀w1 (k:Nat),k<N→Calls prog 159 #[((l.getD k (0,0)).1:Nat),n,wide] w1 fun e w'=>e=.returned (.int .i64 ((stripeOf (l.getD k (0,0)).1 n wide:Nat):Int))∧∃q,w'=w1.drewN q):=h_ (fun w1 k hk=>PJ w1 _ n wide (by
  have hk':k<l.length:=hN▸hk;rw[gD,List.getElem?_eq_getElem hk'];exact ha _ (List.getElem_mem hk')) h1 h2 h3 h4)
 have HRW:Hid (∀w1 (k:Nat) P,Sat ω w1 (P*G)→k<N→∃g,A=some ⟨g,0,none⟩∧g<w1.heap.size∧w1.cell? (κ g (k*2))=some (.int .i64 ((l.getD k (0,0)).1:Int))∧w1.cell? (κ g (k*2+1))=some (.int .u64 ((l.getD k (0,0)).2:Int))):=h_ (fun w1 k P h1 hk=>by
  rw[hG] at h1;obtain⟨g,h5,h6,h7⟩:=h1.right.rowAt (l:=l) (f:=seV) (fun _=>rfl) (0,0) (hN▸hk)
  exact⟨g,h5,h6,h7 0 (by omega),h7 1 (by omega)⟩)
 have H0:Hid (Sat ω w (row 3 1 (.slice none 0 0) 0 (vI (strs l n wide 0))*G)):=h_ (by rw[Md];exact h.nil _ _)
 have HSC:Hid (∀k,k<N→strs l n wide (k+1)=strs l n wide k++[stripeOf (l.getD k (0,0)).1 n wide]):=h_ (fun k hk=>Me l n wide k (hN▸hk))
 have HSL:Hid (∀k,k≤N→(strs l n wide k).length=k):=h_ (fun k hk=>Oj l n wide k (hN▸hk))
 have HFU:Hid (zI (strs l n wide N)=zI (l.map fun c=>stripeOf c.1 n wide)):=h_ (by unfold strs;rw[←hN,List.take_length])
 rw[hN] at hl;rw[hN];go_enter func163,ntmps163;go_wp2;go_loopw [7,9,10,13] (fun v _ _ i wr=>∃(k:Nat) (A2:Option Addr) (c2:Nat),k≤N∧i=.int .i64 k∧v=.slice A2 k c2∧Hid (Sat ω wr (row 3 1 (.slice A2 k c2) k (vI (strs l n wide k))*G))) (fun _ _ _ i _=>N-(intOf i).toNat)
 case atStart=>exact⟨0,none,0,by omega,rfl,rfl,H0.o⟩
 case round =>
  obtain⟨k,A2,c2,hk,rfl,rfl,HX⟩:=hrel;by_cases hlt:k<N
  ·obtain⟨g,rfl,hg,r0,r1⟩:=HRW.o _ k _ HX.o hlt;have HO:=h_ (fun w1=>HOF.o w1 k hlt)
   have HS1:=h_ (HSC.o k hlt);obtain⟨x1,hx1⟩:∃x1,(l.getD k (0,0)).1=x1:=⟨_,rfl⟩;obtain⟨x2,hx2⟩:∃x2,(l.getD k (0,0)).2=x2:=⟨_,rfl⟩;rw[hx1] at r0 HO HS1;rw[hx2] at r1;obtain⟨s,hs⟩:∃s,stripeOf x1 n wide=s:=⟨_,rfl⟩;rw[hs] at HO HS1;have hs0:(0:Int)≤(s:Int):=by omega
   have HRD:Hid (∀q,Reads (((wr.alloc (.cells #[x1,υ x2] 54)).alloc (.cells #[s] 3)).drewN q) (wr.heap.size+1+1) 1 (some ⟨wr.heap.size+1,0,none⟩) 1 [.int .i64 s]):=h_ (fun q=>by
    have h9:=(Reads.of_blk (size:=1) (n:=1) (Blk.new (wr.alloc (.cells #[x1,υ x2] 54)) 3 #[s]) rfl).drewN q;simp only[World.size_alloc] at h9;exact h9)
   have HAP:Hid (∀q,Sat ω (((wr.alloc (.cells #[x1,υ x2] 54)).alloc (.cells #[s] 3)).drewN q) (row 3 1 (.slice A2 k c2) k (vI (strs l n wide k))*G)):=h_ (fun q=>((HX.o.junk _).junk _).drewN q)
   have HON:Hid (∀u∈[Value.int .i64 s],u.oneCell'=true):=h_ (by intro u hu;simp at hu;subst hu;rfl)
   go_wp2_with (first
    |(go_at_call 159;refine(HO.o _).mono ?_;rintro e w1 ⟨rfl,q,rfl⟩)
    |(at_builtin;refine AB rfl _ _ 50 rfl 3 i0 _ 1 8 underlying50 HI.o HZ0.o HZ1.o HZ2.o rfl (by decide) _ _ _ rfl (HAP.o _) _ _ _ _ _ rfl (HRD.o _) HON.o (by unfold maxLen;omega) (by omega) ?_;intro A' c' w' hs;rw[←LQ,←HS1.o] at hs;have HS:=h_ hs))
   exact⟨⟨k+1,A',c',by omega,by go_num,rfl,HS.o⟩,by simp[intOf];omega⟩
  ·have HKN:Hid (k=N):=h_ (by omega)
   have HY0:Hid (Sat ω wr (row 3 1 (.slice A2 k c2) k ((zI (l.map fun c=>stripeOf c.1 n wide)).map (Value.int .i64))*G)):=h_ (by
    have h9:=HX.o;rw[show vI (strs l n wide k)=(zI (l.map fun c=>stripeOf c.1 n wide)).map (Value.int .i64) by rw[HKN.o,Fi,HFU.o]] at h9
    exact h9)
   have HSO:Hid (∀w1,Sat ω w1 (row 3 1 (.slice A2 k c2) k ((zI (l.map fun c=>stripeOf c.1 n wide)).map (Value.int .i64))*G)→Calls prog 192 #[.slice A2 k c2] w1 (Rets ω G (.tuple #[]) (row 3 1 (.slice A2 k c2) k (((zI (l.map fun c=>stripeOf c.1 n wide)).mergeSort fun x y=>decide (x≤y)).map (Value.int .i64))))):=h_ (fun w1 h1=>Mf ω w1 G A2 k c2 _ (by omega) h1)
   have HCO:Hid (∀w1,Sat ω w1 (row 3 1 (.slice A2 k c2) k (((zI (l.map fun c=>stripeOf c.1 n wide)).mergeSort fun x y=>decide (x≤y)).map (Value.int .i64))*G)→Calls prog 193 #[.slice A2 k c2] w1 (RetR ω G 3 1 (stripesOf l n wide).length (vI (stripesOf l n wide)))):=h_ (fun w1 h1=>by
    have h9:=Gr ω w1 G A2 k c2 _ (by omega) h1
    rw[Dv,TJ,←Fi] at h9;exact h9)
   go_wp2_with (first
    |(go_at_call 192;refine(HSO.o _ HY0.o).mono ?_;rintro e w1 ⟨rfl,hs⟩;have HY:=h_ hs)
    |(go_at_call 193;refine(HCO.o _ HY.o).mono ?_;rintro e w2 ⟨A3,c3,rfl,hs⟩;have HQ:=h_ hs))
   go_ret;exact⟨_,_,rfl,HQ.o⟩
end
theorem UR (ω w:World)(F:HP)(me spins stamp:Nat)(seen cells:List (Nat×Nat))(A1 A2:Option Addr)(c1 c2 n wide:Nat)
  (h:Sat ω w (row 148 2 (.slice A1 seen.length c1) seen.length (vS seen)*(row 54 2 (.slice A2 cells.length c2) cells.length (vS cells)*F)))
  (hs:seen.length≤1000) (hl:cells.length≤1000) (ha:∀x∈cells,x.1≤1000000) (h1:1≤n) (h2:n≤16) (h3:1≤wide) (h4:wide≤16):
  Calls prog 133 #[me,spins,υ stamp,.slice A1 seen.length c1,.slice A2 cells.length c2,n,wide] w (RetP ω (row 148 2 (.slice A1 seen.length c1) seen.length (vS seen)*(row 54 2 (.slice A2 cells.length c2) cells.length (vS cells)*F)) fun b=>coH b (PCo.new me spins stamp seen cells n wide)):=by
 obtain⟨S,hS⟩:∃S,S=row 148 2 (.slice A1 seen.length c1) seen.length (vS seen):=⟨_,rfl⟩;obtain⟨C,hC⟩:∃C,C=row 54 2 (.slice A2 cells.length c2) cells.length (vS cells):=⟨_,rfl⟩;rw[←hS,←hC] at h ⊢;obtain⟨p,hp⟩:∃p,PPat.new me spins=p:=⟨_,rfl⟩;have HP:Hid (∀w1,Calls prog 162 #[me,spins] w1 fun e w'=>e=.returned (ptA p)∧Only Nob w1 w'):=h_ (fun w1=>hp▸GZ w1 me spins)
 have HC1:Hid (∀w1 G,Sat ω w1 (S*G)→Calls prog 143 #[.slice A1 seen.length c1] w1 (RetR ω (S*G) 148 2 seen.length (vS seen))):=h_ (fun w1 G hg=>by rw[hS] at hg ⊢;exact DV ω w1 G A1 seen.length c1 (vS seen) hg (by omega) (CZ _))
 have HC2:Hid (∀w1 G,Sat ω w1 (C*G)→Calls prog 106 #[.slice A2 cells.length c2] w1 (RetR ω (C*G) 54 2 cells.length (vS cells))):=h_ (fun w1 G hg=>by rw[hC] at hg ⊢;exact CN ω w1 G A2 cells.length c2 (vS cells) hg (by omega) (CZ _))
 have HC3:Hid (∀w1 G,Sat ω w1 (C*G)→Calls prog 163 #[.slice A2 cells.length c2,n,wide] w1 (RetR ω (C*G) 3 1 (stripesOf cells n wide).length (vI (stripesOf cells n wide)))):=h_ (fun w1 G hg=>by rw[hC] at hg ⊢;exact Hw ω w1 G cells A2 c2 n wide hg hl ha h1 h2 h3 h4)
 obtain⟨X,hX⟩:∃X:PCo,X=⟨p,me,stamp,seen,cells,stripesOf cells n wide,[],0,0,PLk.zero,0,false,0,0,0⟩:=⟨_,rfl⟩;have HN:Hid (PCo.new me spins stamp seen cells n wide=X.more):=h_ (by rw[hX,←hp];rfl)
 rw[HN.o];have HB:Hid (∀B1 d1 B2 d2 B3 d3,coC X ⟨B1,d1,B2,d2,B3,d3,none,0⟩=ptC p [.int .i64 me,.int .u64 stamp,.slice B1 seen.length d1,.slice B2 cells.length d2,.slice B3 (stripesOf cells n wide).length d3,.slice none 0 0,.int .i64 0,.int .i64 0,.int .u64 0,.bool false,.int .i64 0,.int .u64 0,.bool false,.int .i64 0,.int .i64 0,.int .i64 0]):=h_ (fun B1 d1 B2 d2 B3 d3=>by rw[hX];rfl)
 have HR:Hid (∀w1 G B1 d1 B2 d2 B3 d3,Sat ω w1 (row 3 1 (.slice B3 (stripesOf cells n wide).length d3) (stripesOf cells n wide).length (vI (stripesOf cells n wide))*(row 54 2 (.slice B2 cells.length d2) cells.length (vS cells)*(row 148 2 (.slice B1 seen.length d1) seen.length (vS seen)*G)))→Sat ω w1 (coRows X ⟨B1,d1,B2,d2,B3,d3,none,0⟩*G)):=h_ (fun w1 G B1 d1 B2 d2 B3 d3 hg=>by
  have h9:=hg.nil 93 3;rw[hX];unfold coRows;exact h9.perm (by simp only[List.length_nil,vL,List.flatMap_nil];ac_rfl))
 have HM:Hid (∀w1 G b D,Sat ω w1 (coB b X D*(coRows X D*G))→Calls prog 164 #[.pointer (some ⟨b,0,none⟩)] w1 (fun e w'=>e=.returned (.tuple #[])∧Sat ω w' (coH b X.more*G))):=h_ (fun w1 G b D hg=>(Lv ω w1 _ b X D hg).mono fun e w' h5=>⟨h5.1,Sat.coTo (D:=D) h5.2⟩)
 have H:=h_ h;obtain⟨pm,ps,pf,pb,pe⟩:=p;simp only[ptA] at HP;generalize stripesOf cells n wide=T at *
 go_enter func133,ntmps133;go_wp2_with (first
  |(go_at_call 162;refine(HP.o _).mono ?_;rintro e w1 ⟨rfl,ho⟩;have HO:=h_ (H.o.nob ho))
  |(go_at_call 143;refine(HC1.o _ _ HO.o).mono ?_;rintro e w2 ⟨B1,d1,rfl,hs⟩;have HS1:=h_ (hs.perm (by ac_rfl):Sat ω w2 (C*(row 148 2 (.slice B1 seen.length d1) seen.length (vS seen)*(S*F)))))
  |(go_at_call 106;refine(HC2.o _ _ HS1.o).mono ?_;rintro e w3 ⟨B2,d2,rfl,hs⟩;have HS2:=h_ (hs.perm (by ac_rfl):Sat ω w3 (C*(row 54 2 (.slice B2 cells.length d2) cells.length (vS cells)*(row 148 2 (.slice B1 seen.length d1) seen.length (vS seen)*(S*F))))))
  |(go_at_call 163;refine(HC3.o _ _ HS2.o).mono ?_;rintro e w4 ⟨B3,d3,rfl,hs⟩;have HS3:=h_ (hs.perm (by ac_rfl):Sat ω w4 (row 3 1 (.slice B3 T.length d3) T.length (vI T)*(row 54 2 (.slice B2 cells.length d2) cells.length (vS cells)*(row 148 2 (.slice B1 seen.length d1) seen.length (vS seen)*(S*(C*F)))))))
  |(go_at_call 164;refine(HM.o _ (S*(C*F)) _ ⟨B1,d1,B2,d2,B3,d3,none,0⟩ ((HR.o _ _ _ _ _ _ _ _ HS3.o).bkNew (by rw[HB.o];rfl))).mono ?_;rintro e w5 ⟨rfl,hs⟩;have HY:=h_ hs))
 go_ret;exact⟨_,rfl,HY.o⟩
section
variable (ω w : World) (F : HP)
theorem Ni (w:World)(x at_ p v:Nat)(c0:w.cell? x=some (.int .i64 p))(hx:x<w.heap.size):
  Calls prog 326 #[.agg #[at_,υ v],.pointer x] w fun e w'=>e=.returned (.bool (at_==p))∧Only Nob w w':=by
 by_cases h:at_=p
 ·subst h;go_enter func326,ntmps326;go_wp2;go_ret;exact⟨by simp,(Only.refl _ _).alloc _⟩
 ·have d:((at_:Int)==(p:Int))=false:=by rw[beq_eq_false_iff_ne];omega
  have hb:(at_==p)=false:=by simpa using h
  rw[hb];go_enter func326,ntmps326;go_wp2;go_ret;exact⟨rfl,(Only.refl _ _).alloc _⟩
def idxW (l:PWr)(p:Nat):Int:=match l.findIdx? (·.1==p) with|some i=>(i:Int)|none=>-1
theorem EE (l:PWr)(p:Nat):idxW l p=match wAt l p with|some i=>(i:Int)|none=>-1:=rfl
theorem Pi {l:PWr}{p k:Nat}(hk:k<l.length)(h:∀j,j<k→(l.getD j (0,0)).1≠p)(hp:(l.getD k (0,0)).1=p):idxW l p=(k:Int):=by
 have e:l.findIdx? (·.1==p)=some k:=by
  rw[List.findIdx?_eq_some_iff_getElem];refine⟨hk,?_,fun j hj=>?_⟩
  ·rw[gD,List.getElem?_eq_getElem hk] at hp;simpa using hp
  ·have:=h j hj
   rw[gD,List.getElem?_eq_getElem (by omega)] at this
   simpa using this
 unfold idxW;rw[e]
theorem Nb {l:PWr}{p:Nat}(h:∀j,j<l.length→(l.getD j (0,0)).1≠p):idxW l p = -1:=by
 have e:l.findIdx? (·.1==p)=none:=by
  rw[List.findIdx?_eq_none_iff];intro x hx;obtain⟨j,hj,rfl⟩:=List.mem_iff_getElem.1 hx
  have:=h j hj
  rw[gD,List.getElem?_eq_getElem hj] at this;simpa using this
 unfold idxW;rw[e]
theorem FT (l:PWr)(A:Option Addr)(c x p:Nat)(h:Sat ω w (row 54 2 (.slice A l.length c) l.length (vS l)*F))(hl:l.length≤1000)(c0:w.cell? x=some (.int .i64 p))(hx:x<w.heap.size):
  Calls prog 325 #[.slice A l.length c,.func (.func 326) #[] #[.pointer x]] w fun e w'=>e=.returned (.int .i64 (idxW l p))∧Only Nob w w':=by
 obtain⟨N,hN⟩:∃N,l.length=N:=⟨_,rfl⟩;have H:=h_ h;have HC:Hid (∀w1,Only Nob w w1→w1.cell? x=some (.int .i64 p)∧x<w1.heap.size):=h_ (fun w1 ho=>⟨(ho.cell (p:=⟨x,0,none⟩) hx (fun e=>e)).trans c0,Nat.lt_of_lt_of_le hx ho.size⟩)
 have HRW:Hid (∀w1 (k:Nat),Only Nob w w1→k<N→∃g,A=some ⟨g,0,none⟩∧g<w1.heap.size∧w1.cell? (κ g (k*2))=some (.int .i64 ((l.getD k (0,0)).1:Int))∧w1.cell? (κ g (k*2+1))=some (.int .u64 ((l.getD k (0,0)).2:Int))):=h_ (fun w1 k ho hk=>by
  obtain⟨g,h5,h6,h7⟩:=(h.nob ho).rowAt (l:=l) (f:=seV) (fun _=>rfl) (0,0) (hN▸hk)
  exact⟨g,h5,h6,h7 0 (by omega),h7 1 (by omega)⟩)
 have HHI:Hid (∀k,k<N→(∀j,j<k→(l.getD j (0,0)).1≠p)→(l.getD k (0,0)).1=p→idxW l p=(k:Int)):=h_ (fun k hk h1 h2=>Pi (hN▸hk) h1 h2)
 have HMI:Hid ((∀j,j<N→(l.getD j (0,0)).1≠p)→idxW l p = -1):=h_ (fun h1=>Nb (hN▸h1))
 rw[hN] at hl;rw[hN];go_enter func325,ntmps325;go_wp2;go_loopw [5,8] (fun _ i wr=>∃k:Nat,k≤N∧i=.int .i64 k∧Hid (Only Nob w wr)∧Hid (∀j,j<k→(l.getD j (0,0)).1≠p)) (fun _ i _=>N-(intOf i).toNat)
 case atStart=>exact⟨0,by omega,rfl,Only.refl _ _,fun j hj=>absurd hj (by omega)⟩
 case round =>
  obtain⟨k,hk,rfl,HO,HP⟩:=hrel;by_cases hlt:k<N
  ·obtain⟨g,rfl,hg,r0,r1⟩:=HRW.o _ k HO.o hlt;obtain⟨x0,hxl⟩:=HC.o _ HO.o;obtain⟨x1,hx1⟩:∃x1,(l.getD k (0,0)).1=x1:=⟨_,rfl⟩;obtain⟨x2,hx2⟩:∃x2,(l.getD k (0,0)).2=x2:=⟨_,rfl⟩;rw[hx1] at r0;rw[hx2] at r1;have HX1:=h_ hx1;have HF:=h_ (Ni wr x x1 p x2 x0 hxl);by_cases he:x1=p
   ·have HE:=h_ (HHI.o k hlt HP.o (HX1.o.trans he));rw[show(x1==p)=true by simpa using he] at HF
    clear he;go_wp2_with (go_at_call 326;refine(HF.o).mono ?_;rintro e w1 ⟨rfl,ho⟩;have HO2:=h_ (HO.o.trans ho));go_ret;exact⟨by rw[HE.o];rfl,HO2.o⟩
   ·have HP2:Hid (∀j,j<k+1→(l.getD j (0,0)).1≠p):=h_ (fun j hj=>by
     rcases Nat.lt_or_ge j k with h1|h1
     ·exact HP.o j h1
     ·obtain rfl:j=k:=by omega
      rw[HX1.o];exact he)
    rw[show(x1==p)=false by simpa using he] at HF
    go_wp2_with (go_at_call 326;refine(HF.o).mono ?_;rintro e w1 ⟨rfl,ho⟩;have HO2:=h_ (HO.o.trans ho));exact⟨⟨k+1,by omega,by go_num,HO2.o,HP2.o⟩,by simp[intOf];omega⟩
  ·have HE:=h_ (HMI.o (fun j hj=>HP.o j (by omega)))
   go_wp2;go_ret;exact⟨by rw[HE.o];rfl,HO.o⟩
def wrHA (b most:Nat)(l:PWr)(A:Option Addr)(c:Nat):HP:=bk b 321 #[most,.slice A l.length c]*row 54 2 (.slice A l.length c) l.length (vS l)
def wrH (b most:Nat)(l:PWr):HP:=ex fun A=>ex fun c=>wrHA b most l A c
theorem CU {ω w:World}{F:HP}{b most:Nat}{l:PWr}(h:Sat ω w (wrH b most l*F)):∃A c,Sat ω w (bk b 321 #[most,.slice A l.length c]*(row 54 2 (.slice A l.length c) l.length (vS l)*F)):=by
 obtain⟨A,h⟩:=h.of_ex;obtain⟨c,h⟩:=h.of_ex;exact⟨A,c,h.assoc⟩
theorem EI {ω w:World}{F:HP}{b most:Nat}{l:PWr}{A:Option Addr}{c:Nat}(h:Sat ω w (bk b 321 #[most,.slice A l.length c]*(row 54 2 (.slice A l.length c) l.length (vS l)*F))):Sat ω w (wrH b most l*F) :=
 Sat.to_ex A (h.assoc'.impL fun y hy=>⟨c,hy⟩)
theorem LJ (b most:Nat)(l:PWr)(h:Sat ω w (wrH b most l*F))(hl:l.length≤1000)(p:Nat):
  Calls prog 260 #[.pointer b,p] w fun e w'=>e=.returned (.int .i64 (idxW l p))∧Only Nob w w':=by
 obtain⟨A,c,h⟩:=CU h;have c1:=h.blk.c 1;have lt:=h.blk.lt;have HX:Hid (Calls prog 325 #[.slice A l.length c,.func (.func 326) #[] #[.pointer w.heap.size]] (w.alloc (.cells #[p] 3)) fun e w'=>e=.returned (.int .i64 (idxW l p))∧Only Nob (w.alloc (.cells #[p] 3)) w') :=
  h_ (FT ω _ F l A c w.heap.size p ((h.right).junk _) hl ((Blk.new w 3 #[p]).cell 0) (by simp))
 obtain⟨N,hN⟩:∃N,l.length=N:=⟨_,rfl⟩;rw[hN] at c1 HX;go_enter func260,ntmps260;go_wp2_with (go_at_call 325;refine(HX.o).mono ?_;rintro e w1 ⟨rfl,ho⟩;have HO2:=h_ (((Only.refl Nob w).alloc _).trans ho));go_ret;exact⟨rfl,HO2.o⟩
theorem OS {l:PWr}{p i:Nat}(h:wAt l p=some i):i<l.length∧(l.getD i (0,0)).1=p:=by
 obtain⟨h1,h2,_⟩:=List.findIdx?_eq_some_iff_getElem.1 h;refine⟨h1,?_⟩;rw[gD,List.getElem?_eq_getElem h1];simpa using h2
theorem TL (b most:Nat)(l:PWr)(h:Sat ω w (wrH b most l*F))(hl:l.length≤1000)(p:Nat):
  Calls prog 257 #[.pointer b,p] w fun e w'=>e=.returned (.tuple #[υ ((wGet l p).getD 0:Nat),.bool (wGet l p).isSome])∧Only Nob w w':=by
 have HF:=h_ (LJ ω w F b most l h hl p);have HH:=h_ h;unfold wGet;cases hi:wAt l p with
 |none =>
  rw[EE,hi] at HF;simp only at HF;simp only[Option.map_none,Option.getD_none,Option.isSome_none];go_enter func257,ntmps257;go_wp2_with (go_at_call 260;refine(HF.o).mono ?_;rintro e w1 ⟨rfl,ho⟩;have HO2:=h_ ho);go_ret2;exact⟨rfl,HO2.o⟩
 |some i =>
  rw[EE,hi] at HF;simp only at HF;obtain⟨hlt,hp⟩:=OS hi;have HC:Hid (∀w1,Only Nob w w1→∃g c,w1.cell? (κ b 1)=some (.slice (some ⟨g,0,none⟩) l.length c)∧w1.cell? (κ g (i*2+1))=some (.int .u64 ((l.getD i (0,0)).2:Int))∧g<w1.heap.size∧b<w1.heap.size):=h_ (fun w1 ho=>by
   obtain⟨A,c,h1⟩:=CU (HH.o.nob ho);obtain⟨g,rfl,hg,hc⟩:=h1.right.rowAt (f:=seV) (fun _=>rfl) (0,0) hlt
   exact⟨g,c,h1.blk.cell 1,hc 1 (by omega),hg,h1.blk.lt⟩)
  simp only[Option.map_some,Option.getD_some,Option.isSome_some];obtain⟨N,hN⟩:∃N,l.length=N:=⟨_,rfl⟩;rw[hN] at HC hlt hl;generalize (l.getD i (0,0)).2=v at *
  go_enter func257,ntmps257;go_wp2_with (go_at_call 260;refine(HF.o).mono ?_;rintro e w1 ⟨rfl,ho⟩;obtain⟨g,c,k1,k2,k3,k4⟩:=HC.o _ ho;have HO2:=h_ ho);go_ret2;exact⟨rfl,HO2.o⟩
end
theorem Sat.rowStore {ω w:World}{F:HP}{e:TypeId}{size g n c:Nat}{xs:List Value}(h:Sat ω w (row e size (.slice (some ⟨g,0,none⟩) n c) n xs*F)){j:Nat}(hj:j<n*size)(u:Value):Sat ω (w.setCell (κ g j) u) (row e size (.slice (some ⟨g,0,none⟩) n c) n (xs.set j u)*F):=by
 rcases h.cases with⟨h1,_⟩|⟨g',cap,cur,h1,h2,h3,h4,h5,h6,h7⟩
 ·cases h1
 ·injection h1 with h1 _ h1c
  subst h1c;injection h1 with h1
  injection h1 with h1
  subst h1;have h8:=h7.set j u;refine h8.impL fun y hy=>Cc h2 h3 (by simp[h4]) ?_ y hy
  rw[Array.toList_setIfInBounds,List.take_set,h5]
theorem TU (l:List (Nat×Nat))(i v:Nat):(vS l).set (i*2+1) (.int .u64 v)=vS (l.set i ((l.getD i (0,0)).1,v)):=by
 induction l generalizing i with
 |nil=>simp[vS]
 |cons x l ih =>
  cases i with
  |zero=>simp[vS,seV]
  |succ i =>
   have:=ih i
   simp only[vS,List.flatMap_cons,seV,List.cons_append,List.nil_append,Nat.succ_mul,List.set_cons_succ,List.getD_cons_succ] at this ⊢;rw[this]
theorem Dy (l:List (Nat×Nat))(x:Nat×Nat):vS (l++[x])=vS l++[.int .i64 x.1,.int .u64 x.2]:=by simp[vS,seV]
def WrPost (ω:World)(F:HP)(b most:Nat)(r:Nat×PWr)(e:Ending)(w':World):Prop:=e=.returned (.int .i64 r.1)∧Sat ω w' (wrH b most r.2*F)
theorem OL (ω w:World)(F:HP)(b most:Nat)(l:PWr)(h:Sat ω w (wrH b most l*F))(hl:l.length≤1000)(hm:most≤1000)(p v:Nat)(hp:p≤1000000):
  Calls prog 222 #[.pointer b,p,υ v] w (WrPost ω F b most (wPut most l p v)):=by
 have H:=h_ h;by_cases h0:p<1∨256≤p
 ·rw[show wPut most l p v=(2,l) by unfold wPut;rw[if_pos h0]]
  rcases h0 with h0|h0
  ·have d:decide ((p:Int)<1)=true:=by simp;omega
   go_enter func222,ntmps222;go_wp2;go_ret;exact⟨rfl,H.o⟩
  ·have d:¬(p:Int)<1:=by omega
   go_enter func222,ntmps222;go_wp2;go_ret;exact⟨rfl,H.o⟩
 ·have g1:¬(p:Int)<1:=by omega
  have g2:¬(256:Int)≤(p:Int):=by omega
  have HF:=h_ (LJ ω w F b most l h hl p);cases hi:wAt l p with
  |some i =>
   obtain⟨hlt,hpi⟩:=OS hi;rw[show wPut most l p v=(0,l.set i (p,v)) by unfold wPut;rw[if_neg h0,hi]]
   rw[EE,hi] at HF;simp only at HF;have HC:Hid (∀w1,Only Nob w w1→∃g c,w1.cell? (κ b 1)=some (.slice (some ⟨g,0,none⟩) l.length c)∧w1.cell? (κ g (i*2+1))=some (.int .u64 ((l.getD i (0,0)).2:Int))∧g<w1.heap.size∧b<w1.heap.size∧(∀j,w1.frozen? (κ g j)=false)∧Sat ω (w1.setCell (κ g (i*2+1)) (.int .u64 v)) (wrH b most (l.set i (p,v))*F)):=h_ (fun w1 ho=>by
    obtain⟨A,c,h1⟩:=CU (H.o.nob ho);obtain⟨g,rfl,hg,hc⟩:=h1.right.rowAt (f:=seV) (fun _=>rfl) (0,0) hlt
    refine⟨g,c,h1.blk.cell 1,hc 1 (by omega),hg,h1.blk.lt,?_,?_⟩
    ·rcases h1.right.cases with⟨h9,_⟩|⟨g',_,_,h9,_,_,_,_,_,h10⟩
     ·cases h9
     ·injection h9 with h9 _ _
      injection h9 with h9
      injection h9 with h9
      subst h9;exact h10.blk.frozen
    ·have h2:=(h1.swap.rowStore (j:=i*2+1) (by omega) (.int .u64 v)).swap
     rw[TU,hpi] at h2;refine EI (A:=some ⟨g,0,none⟩) (c:=c) ?_;rw[List.length_set];exact h2)
   obtain⟨N,hN⟩:∃N,l.length=N:=⟨_,rfl⟩;rw[hN] at HC hlt hl;generalize (l.getD i (0,0)).2=x at *
   go_enter func222,ntmps222;go_wp2_with (go_at_call 260;refine(HF.o).mono ?_;rintro e w1 ⟨rfl,ho⟩;obtain⟨g,c,k1,k2,k3,k4,k5,k6⟩:=HC.o _ ho;have HX:=h_ k6);go_ret;exact⟨rfl,HX.o⟩
  |none =>
   rw[EE,hi] at HF;simp only at HF;have HC:Hid (∀w1,Only Nob w w1→∃A c,w1.cell? b=some (.int .i64 most)∧w1.cell? (κ b 1)=some (.slice A l.length c)∧b<w1.heap.size∧(∀j,w1.frozen? (κ b j)=false)∧Hid (Sat ω w1 (bk b 321 #[most,.slice A l.length c]*(row 54 2 (.slice A l.length c) l.length (vS l)*F)))):=h_ (fun w1 ho=>by
    obtain⟨A,c,h1⟩:=CU (H.o.nob ho);exact⟨A,c,h1.blk.cell 0,h1.blk.cell 1,h1.blk.lt,h1.blk.frozen,h1⟩)
   by_cases hf:most≤l.length
   ·rw[show wPut most l p v=(5,l) by unfold wPut;rw[if_neg h0,hi];simp only;rw[if_pos hf]]
    obtain⟨N,hN⟩:∃N,l.length=N:=⟨_,rfl⟩;rw[hN] at HC hl hf;go_enter func222,ntmps222;go_wp2_with (go_at_call 260;refine(HF.o).mono ?_;rintro e w1 ⟨rfl,ho⟩;obtain⟨A,c,k1,k2,k3,k4,HX⟩:=HC.o _ ho;have HO:=h_ (H.o.nob ho));go_quiet (fail);go_wp2;go_ret;exact⟨rfl,HO.o.drewN _⟩
   ·rw[show wPut most l p v=(0,l++[(p,v)]) by unfold wPut;rw[if_neg h0,hi];simp only;rw[if_neg hf]]
    obtain⟨i0,hi0,hz⟩:=Option.map_eq_some_iff.1 CK;simp only[Prod.mk.injEq] at hz;obtain⟨hz0,hz1,hz2⟩:=hz;have HI:=h_ hi0;have HZ0:=h_ hz0;have HZ1:=h_ hz1;have HZ2:=h_ hz2;have HON:Hid (∀u∈[Value.int .i64 p,.int .u64 v],u.oneCell'=true):=h_ (by intro u hu;simp at hu;rcases hu with rfl|rfl<;>rfl)
    obtain⟨N,hN⟩:∃N,l.length=N:=⟨_,rfl⟩;have HFI:Hid (∀w2 A' c',Sat ω w2 (row 54 2 (.slice A' (N+1) c') (N+1) (vS l++[.int .i64 p,.int .u64 v])*(bk b 321 #[most,.slice A' (N+1) c']*F))→Sat ω w2 (wrH b most (l++[(p,v)])*F)):=h_ (fun w2 A' c' h2=>by
     refine EI (A:=A') (c:=c') ?_;rw[List.length_append,List.length_singleton,hN,Dy];exact h2.swap)
    rw[hN] at HC hl hf;go_enter func222,ntmps222;go_wp2_with (go_at_call 260;refine(HF.o).mono ?_;rintro e w1 ⟨rfl,ho⟩;obtain⟨A,c,k1,k2,k3,k4,HX⟩:=HC.o _ ho);go_quiet (fail);have HRD:Hid (∀q,Reads ((w1.drewN q).alloc (.cells #[p,υ v] 54)) (w1.heap.size+1) 2 (some ⟨w1.heap.size,0,none⟩) 1 [.int .i64 p,.int .u64 v]):=h_ (fun q=>by
     have h9:=Reads.of_blk (size:=2) (n:=1) (Blk.new (w1.drewN q) 54 #[p,υ v]) rfl;rw[World.size_alloc] at h9;exact h9)
    have HAP:Hid (∀q,Sat ω ((w1.drewN q).alloc (.cells #[p,υ v] 54)) (row 54 2 (.slice A N c) N (vS l)*(bk b 321 #[most,.slice A N c]*F))):=h_ (fun q=>((HX.o.swap.drewN q).junk _))
    go_wp2_with (at_builtin;refine AB rfl _ _ 49 rfl 54 i0 _ 2 16 underlying49 HI.o HZ0.o HZ1.o HZ2.o rfl (by decide) _ _ _ rfl (HAP.o _) _ _ _ _ _ rfl (HRD.o _) HON.o (by unfold maxLen;omega) (by omega) ?_;intro A' c' w2 hs;have kb:=hs.right.blk;have q1:=kb.cell 1;have qf:=kb.frozen;have ql:=kb.lt;have HS:=h_ (hs.swap.put 1 (.slice A' (N+1) c') (cs':=#[most,.slice A' (N+1) c']) rfl).swap)
    go_ret;exact⟨rfl,HFI.o _ _ _ HS.o⟩
section
variable (ω w : World) (F : HP)
theorem OM (h:Sat ω w F):
  Calls prog 189 #[ι 96] w (RetP ω F fun b=>wrH b 96 []):=by
 have H:=h_ h;go_enter func189,ntmps189;go_wp2;go_ret;refine⟨_,rfl,EI (A:=none) (c:=0) ?_⟩;exact((H.o.nil 54 2).bkNew rfl)
theorem JW (b most:Nat)(l:PWr)(h:Sat ω w (wrH b most l*F))(hl:l.length≤1000):
  Calls prog 191 #[.pointer b] w (RetR ω (wrH b most l*F) 54 2 l.length (vS l)):=by
 obtain⟨A,c,h⟩:=CU h;have c1:=h.blk.c 1;have lt:=h.blk.lt;have HX:Hid (Calls prog 106 #[.slice A l.length c] w (RetR ω (row 54 2 (.slice A l.length c) l.length (vS l)*(bk b 321 #[most,.slice A l.length c]*F)) 54 2 l.length (vS l))):=h_ (CN ω w _ A l.length c (vS l) h.swap (by omega) (CZ _))
 have HF:Hid (∀w1 A' c',Sat ω w1 (row 54 2 (.slice A' l.length c') l.length (vS l)*(row 54 2 (.slice A l.length c) l.length (vS l)*(bk b 321 #[most,.slice A l.length c]*F)))→Sat ω w1 (row 54 2 (.slice A' l.length c') l.length (vS l)*(wrH b most l*F))):=h_ (fun w1 A' c' h1 =>
  (EI (A:=A) (c:=c) (F:=row 54 2 (.slice A' l.length c') l.length (vS l)*F) (h1.perm (by ac_rfl))).swap)
 generalize l.length=N at *
 go_enter func191,ntmps191;go_wp2_with (go_at_call 106;refine(HX.o).mono ?_;rintro e w1 ⟨A',c',rfl,hs⟩;have HS:=h_ hs);go_ret;exact⟨_,_,rfl,HF.o _ _ _ HS.o⟩
theorem Hk {most:Nat}{w l:PWr}{k:Nat}(hk:k<l.length):wTakeF most w (l.drop k)=(if(wPut most w (l.getD k (0,0)).1 (l.getD k (0,0)).2).1≠0 then wPut most w (l.getD k (0,0)).1 (l.getD k (0,0)).2 else wTakeF most (wPut most w (l.getD k (0,0)).1 (l.getD k (0,0)).2).2 (l.drop (k+1))):=by
 rw[List.drop_eq_getElem_cons hk,wTakeF,gD,List.getElem?_eq_getElem hk];rfl
theorem OQ (most:Nat)(w:PWr)(p v:Nat):(wPut most w p v).2.length≤w.length+1∧((wPut most w p v).2.length≤max w.length most):=by
 unfold wPut;split
 ·simp;omega
 ·split
  ·simp;omega
  ·split
   ·simp;omega
   ·simp;omega
theorem GJ (b most:Nat)(l s:PWr)(A:Option Addr)(c:Nat)(h:Sat ω w (wrH b most l*(row 54 2 (.slice A s.length c) s.length (vS s)*F)))(hl:l.length≤500)(hm:most≤500)(hs:s.length≤500)(hp:∀x∈s,x.1≤1000000):
  Calls prog 190 #[.pointer b,.slice A s.length c] w (WrPost ω (row 54 2 (.slice A s.length c) s.length (vS s)*F) b most (wTake most l s)):=by
 obtain⟨S,hS⟩:∃S,S=row 54 2 (.slice A s.length c) s.length (vS s):=⟨_,rfl⟩;rw[←hS] at h ⊢;obtain⟨N,hN⟩:∃N,s.length=N:=⟨_,rfl⟩;obtain⟨r,hr⟩:∃r,wTakeF most l s=r:=⟨_,rfl⟩;have HT:Hid (wTake most l s=if r.1≠0 then(r.1,l) else r):=h_ (by unfold wTake;rw[hr])
 generalize wTake most l s=R at *
 have HAL:=h_ (JW ω w _ b most l h (by omega))
 have HRW:Hid (∀w1 (k:Nat) P Q,Sat ω w1 (P*(Q*(S*F)))→k<N→∃g,A=some ⟨g,0,none⟩∧g<w1.heap.size∧w1.cell? (κ g (k*2))=some (.int .i64 ((s.getD k (0,0)).1:Int))∧w1.cell? (κ g (k*2+1))=some (.int .u64 ((s.getD k (0,0)).2:Int))):=h_ (fun w1 k P Q h1 hk=>by
  rw[hS] at h1;obtain⟨g,h5,h6,h7⟩:=h1.right.right.rowAt (l:=s) (f:=seV) (fun _=>rfl) (0,0) (hN▸hk)
  exact⟨g,h5,h6,h7 0 (by omega),h7 1 (by omega)⟩)
 have HPU:Hid (∀w1 G lk (k:Nat),k<N→lk.length≤1000→Sat ω w1 (wrH b most lk*G)→Calls prog 222 #[.pointer b,((s.getD k (0,0)).1:Nat),υ ((s.getD k (0,0)).2:Nat)] w1 (WrPost ω G b most (wPut most lk (s.getD k (0,0)).1 (s.getD k (0,0)).2))):=h_ (fun w1 G lk k hk hlk h1=>OL ω w1 G b most lk h1 hlk (by omega) _ _ (by
  have hk':k<s.length:=hN▸hk;rw[gD,List.getElem?_eq_getElem hk'];exact hp _ (List.getElem_mem hk')))
 have HTC:Hid (∀lk k,k<N→wTakeF most lk (s.drop k)=(if(wPut most lk (s.getD k (0,0)).1 (s.getD k (0,0)).2).1≠0 then wPut most lk (s.getD k (0,0)).1 (s.getD k (0,0)).2 else wTakeF most (wPut most lk (s.getD k (0,0)).1 (s.getD k (0,0)).2).2 (s.drop (k+1)))):=h_ (fun lk k hk=>Hk (hN▸hk))
 have HTE:Hid (∀lk,wTakeF most lk (s.drop N)=(0,lk)):=h_ (fun lk=>by rw[←hN,List.drop_length];rfl)
 have HR0:Hid (wTakeF most l (s.drop 0)=r):=h_ (by rw[List.drop_zero];exact hr)
 rw[hN] at hs ⊢;go_enter func190,ntmps190;go_wp2_with (go_at_call 191;refine(HAL.o).mono ?_;rintro e w1 ⟨A2,c2,rfl,hx⟩;have HS:=h_ hx);go_loopw [7,8,13] (fun _ _ i wr=>∃(k:Nat) (lk:PWr),k≤N∧lk.length≤500∧i=.int .i64 k∧Hid (wTakeF most lk (s.drop k)=r)∧Hid (Sat ω wr (wrH b most lk*(row 54 2 (.slice A2 l.length c2) l.length (vS l)*(S*F))))) (fun _ _ i _=>N-(intOf i).toNat)
 case atStart=>exact⟨0,l,by omega,hl,rfl,HR0.o,HS.o.swap⟩
 case round =>
  obtain⟨k,lk,hk,hlk,rfl,HP,HX⟩:=hrel;by_cases hlt:k<N
  ·obtain⟨g,rfl,hg,r0,r1⟩:=HRW.o _ k _ _ HX.o hlt;have HQ:=h_ (fun w1=>HPU.o w1 (row 54 2 (.slice A2 l.length c2) l.length (vS l)*(S*F)) lk k hlt (by omega))
   have HP1:Hid ((if(wPut most lk (s.getD k (0,0)).1 (s.getD k (0,0)).2).1≠0 then wPut most lk (s.getD k (0,0)).1 (s.getD k (0,0)).2 else wTakeF most (wPut most lk (s.getD k (0,0)).1 (s.getD k (0,0)).2).2 (s.drop (k+1)))=r):=h_ (by rw[←HTC.o lk k hlt];exact HP.o)
   have HLE:=h_ (OQ most lk (s.getD k (0,0)).1 (s.getD k (0,0)).2);generalize wPut most lk (s.getD k (0,0)).1 (s.getD k (0,0)).2=pr at *
   obtain⟨x1,hx1⟩:∃x1,(s.getD k (0,0)).1=x1:=⟨_,rfl⟩;obtain⟨x2,hx2⟩:∃x2,(s.getD k (0,0)).2=x2:=⟨_,rfl⟩;rw[hx1] at r0 HQ;rw[hx2] at r1 HQ;obtain⟨pe,pl⟩:=pr;simp only at HP1 HLE;by_cases he:pe=0
   ·subst he;have HP2:Hid (wTakeF most pl (s.drop (k+1))=r):=h_ (by have:=HP1.o;rw[if_neg (by simp)] at this;exact this)
    have hpl:pl.length≤500:=by have:=HLE.o.2;omega
    go_wp2_with (go_at_call 222;refine(HQ.o _ (HX.o.junk _)).mono ?_;rintro e w2 ⟨rfl,hx⟩;have HY:=h_ hx);exact⟨⟨k+1,pl,by omega,hpl,by go_num,HP2.o,HY.o⟩,by simp[intOf];omega⟩
   ·have d:((pe:Int)==0)=false:=by simpa using he
    have d2:((pe:Int) != 0)=true:=by simpa using he
    have HP2:Hid (r=(pe,pl)):=h_ (by have:=HP1.o;rw[if_pos (by simpa using he)] at this;exact this.symm)
    have HRE:Hid ((if r.1≠0 then(r.1,l) else r)=(pe,l)):=h_ (by rw[HP2.o];rw[if_pos (by simpa using he)])
    have HRR:Hid (R=(pe,l)):=h_ (HT.o.trans HRE.o);have HZ:Hid (∀w2,Sat ω w2 (wrH b most pl*(row 54 2 (.slice A2 l.length c2) l.length (vS l)*(S*F)))→Sat ω (w2.setCell (κ b 1) (.slice A2 l.length c2)) (wrH b most l*(S*F))∧(∃v,w2.cell? (κ b 1)=some v)∧(∀j,w2.frozen? (κ b j)=false)):=h_ (fun w2 h2=>by
     obtain⟨A3,c3,h3⟩:=CU h2;have h4:=h3.put 1 (.slice A2 l.length c2) (cs':=#[most,.slice A2 l.length c2]) rfl;refine⟨EI (A:=A2) (c:=c2) ?_,⟨_,h3.blk.cell 1⟩,h3.blk.frozen⟩;have h5:Sat ω _ (bk b 321 #[most,.slice A2 l.length c2]*(row 54 2 (.slice A2 l.length c2) l.length (vS l)*(S*F)*row 54 2 (.slice A3 pl.length c3) pl.length (vS pl))):=h4.perm (by ac_rfl)
     exact h5.assoc'.left.perm (by ac_rfl))
    go_wp2_with (go_at_call 222;refine(HQ.o _ (HX.o.junk _)).mono ?_;rintro e w2 ⟨rfl,hx⟩;obtain⟨hz1,⟨v,hz2⟩,hz3⟩:=HZ.o _ hx;have HY:=h_ hz1);rw[HRR.o];go_ret;exact⟨rfl,HY.o⟩
  ·have HRE:Hid ((if r.1≠0 then(r.1,l) else r)=(0,lk)):=h_ (by
    have h1:=HP.o;rw[show k=N by omega,HTE.o] at h1
    rw[←h1];simp)
   have HRR:Hid (R=(0,lk)):=h_ (HT.o.trans HRE.o);go_wp2;rw[HRR.o];go_ret;refine⟨rfl,?_⟩;have h9:Sat ω wr (wrH b most lk*(S*F)*row 54 2 (.slice A2 l.length c2) l.length (vS l)):=HX.o.perm (by ac_rfl)
   exact h9.left
end
end Go.Proofs.YtfodmgaliclhfaaGreatDoor
