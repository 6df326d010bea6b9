/- Lemmas for TopPairs; no conditions. -/
import Derived.Test.YtfodmgaliclhfaaGreatDoorMm
import Derived.Deep.QuietTactic
import Derived.BigQuiet
import Derived.WalkSpells
namespace Go.Proofs.YtfodmgaliclhfaaGreatDoor
set_option linter.unusedVariables false
set_option linter.unusedSimpArgs false
set_option maxRecDepth 100000
set_option maxHeartbeats 4000000
open Go.RowKit
theorem do_any (ω w:World)(F:HP)(s:MSh)(b:Nat)(m:PMm)(A:MemA)(h:Sat ω w (memHA s b m A*F))(hf:m.fits)(o:POp)(ho:o.at_≤1000000)(hk:1≤o.kind∧o.kind≤9):
  Calls Tryz.prog 55 #[.pointer (some ⟨b,0,none⟩),opA o] w (Rets ω F (ansA (doM m o).1) (memHA s b (doM m o).2 A)):=by
 rcases(by omega:o.kind=1∨o.kind=2∨o.kind=3∨o.kind=4∨o.kind=5∨o.kind=6∨o.kind=7∨o.kind=8∨o.kind=9) with k|k|k|k|k|k|k|k|k
 ·exact do_word ω w F s b m A h hf o ho k
 ·exact do_setWord ω w F s b m A h hf o ho k
 ·exact do_lock ω w F s b m A h hf o ho k
 ·exact do_casLock ω w F s b m A h hf o ho k
 ·exact do_setLock ω w F s b m A h hf o ho k
 ·exact do_clock ω w F s b m A h hf o ho k
 ·exact do_casClock ω w F s b m A h hf o ho k
 ·exact do_epoch ω w F s b m A h hf o ho k
 ·exact do_setEpoch ω w F s b m A h hf o ho k
theorem memHA_count {s:MSh}{b:Nat}{m:PMm}{A:MemA}{F:HP}{ω w:World}(h:Sat ω w (memHA s b m A*F))(c:Int):Sat ω (w.setCell ⟨b,9,none⟩ (.int .i64 c)) (memHA s b { m with count:=c } A*F) :=
 ((h.perm memHA_top).put 9 (.int .i64 c) (cs':=memCells s A c) rfl).perm (memHA_top (m:={ m with count:=c })).symm
theorem mem_do (ω w:World)(F:HP)(s:MSh)(b:Nat)(m:PMm)(h:Sat ω w (memH s b m*F))(hf:m.fits)(o:POp)(ho:o.at_≤1000000)(hk:1≤o.kind∧o.kind≤9):
  Calls Tryz.prog 35 #[.pointer (some ⟨b,0,none⟩),opA o] w (Rets ω F (ansA (doC m o).1) (memH s b (doC m o).2)):=by
 obtain⟨A,h⟩:=h.of_ex;have HD:=h_ (fun w1 F1 (h1:Sat ω w1 (memHA s b m A*F1))=>do_any ω w1 F1 s b m A h1 hf o ho hk)
 have HE:Hid (doC m o=((doM m o).1,if(doM m o).1.err=0 then { (doM m o).2 with count:=wrap64 ((doM m o).2.count+1) } else(doM m o).2)):=rfl
 rw[HE.o];generalize doM m o=r at *
 obtain⟨⟨xw,⟨xv,xh,xo⟩,xd,xe⟩,m2⟩:=r;obtain⟨kind,at_,old,word,⟨wv,wh,wo⟩,⟨lv,lh,lo⟩⟩:=o;have h1:=(h.junk (.cells #[.int .i64 kind,.int .i64 at_,.int .u64 old,.int .u64 word,.int .u64 wv,.bool wh,.int .i64 wo,.int .u64 lv,.bool lh,.int .i64 lo] 95)).new #[.int .u64 0,.int .u64 0,.bool false,.int .i64 0,.bool false,.int .i64 0] 100;simp only[World.size_alloc] at h1;have H1:=h_ ((h1.perm (by ac_rfl):Sat ω _ (memHA s b m A*(bk (w.heap.size+1) 100 #[.int .u64 0,.int .u64 0,.bool false,.int .i64 0,.bool false,.int .i64 0]*F))))
 have hb:=(h.perm memHA_top).blk.lt;clear h h1 HE;simp only[opA,ansA] at HD ⊢;have HX:Hid (∀w1,Sat ω w1 (memHA s b m2 A*F)→Sat ω w1 (memH s b m2*F)):=h_ (fun w1 h1=>h1.to_ex A)
 have HY:Hid (∀w1,Sat ω w1 (memHA s b { m2 with count:=wrap64 (m2.count+1) } A*F)→Sat ω w1 (memH s b { m2 with count:=wrap64 (m2.count+1) }*F)):=h_ (fun w1 h1=>h1.to_ex A)
 by_cases he:xe=0
 ·subst he;rw[if_pos rfl];go_enter Tryz.func35,Tryz.ntmps35;go_wp2_with ((go_at_call 55;refine(HD.o _ _ H1.o).mono ?_;rintro e w1 ⟨rfl,hs⟩;have q:=hs.right.blk;obtain⟨q0,q1,q2,q3,q4,q5⟩:=q.six;have qf:=q.frozen;have ql:=q.lt;have k:=(hs.perm memHA_top).blk;have k9:=k.c 9;have kf:=k.frozen;have kl:=k.lt;have HS:=h_ hs.swap.jk1;clear q k hs));refine bodyPost_ret (v:=.agg #[.int .u64 xw,.int .u64 xv,.bool xh,.int .i64 xo,.bool xd,.int .i64 0]) (by simp[results,Tryz.results35,go_sem, *]) rfl ⟨rfl,?_⟩
  refine HY.o _ (Sat.right (P:=jk (fun k=>k=w.heap.size+1)) ?_)
  repeat' (first|(with_reducible first|exact(memHA_count HS.o.swap _).swap|refine Sat.setJ ?_ ?_ _|refine Sat.junk ?_ _)|exact rfl)
 ·have he2:((xe:Int)==0)=false:=by simpa using he
  rw[if_neg he];go_enter Tryz.func35,Tryz.ntmps35;go_wp2_with ((go_at_call 55;refine(HD.o _ _ H1.o).mono ?_;rintro e w1 ⟨rfl,hs⟩;have q:=hs.right.blk;obtain⟨q0,q1,q2,q3,q4,q5⟩:=q.six;have qf:=q.frozen;have ql:=q.lt;have HS:=h_ hs.swap.jk1;clear q hs));refine bodyPost_ret (v:=.agg #[.int .u64 xw,.int .u64 xv,.bool xh,.int .i64 xo,.bool xd,.int .i64 xe]) (by simp[results,Tryz.results35,go_sem, *]) rfl ⟨rfl,?_⟩
  refine HX.o _ (Sat.right (P:=jk (fun k=>k=w.heap.size+1)) ?_)
  repeat' (first|(with_reducible first|exact HS.o|refine Sat.setJ ?_ ?_ _|refine Sat.junk ?_ _)|exact rfl)
section
variable (ω w : World) (F : HP)
def ptC (p:PPat)(r:List Value):Array Value:=(.int .i64 p.me::.int .i64 p.spins::.int .i64 p.fin::.int .i64 p.by_::.int .i64 p.err::r).toArray
structure PtAt (w:World) (b:Nat) (p:PPat):Prop where
 c0:w.cell? ⟨b,0,none⟩=some (.int .i64 p.me)
 c1:w.cell? ⟨b,1,none⟩=some (.int .i64 p.spins)
 c2:w.cell? ⟨b,2,none⟩=some (.int .i64 p.fin)
 c3:w.cell? ⟨b,3,none⟩=some (.int .i64 p.by_)
 c4:w.cell? ⟨b,4,none⟩=some (.int .i64 p.err)
 fz:∀i,w.frozen? ⟨b,i,none⟩=false
 lt:b<w.heap.size
theorem PtAt.of {w:World}{b:Nat}{t:TypeId}{p:PPat}{r:List Value}(h:Blk w b t (ptC p r)):PtAt w b p :=
 ⟨h.cell 0,h.cell 1,h.cell 2,h.cell 3,h.cell 4,h.frozen,h.lt⟩
theorem pat_stop (b:Nat)(t:TypeId)(p:PPat)(r:List Value)(h:Sat ω w (bk b t (ptC p r)*F))(fin err:Nat)(by_:Int):
  Calls Tryz.prog 392 #[.pointer (some ⟨b,0,none⟩),.int .i64 fin,.int .i64 err,.int .i64 by_] w fun e w'=>e=.returned (.tuple #[])∧Sat ω w' (bk b t (ptC (p.stop fin err by_) r)*F):=by
 obtain⟨c0,c1,c2,c3,c4,f,lt⟩:=PtAt.of h.blk;have H:=h_ (((h.set 2 (.int .i64 fin)).set 4 (.int .i64 err)).put 3 (.int .i64 by_) (cs':=ptC (p.stop fin err by_) r) rfl);clear h;go_enter Tryz.func392,Tryz.ntmps392;go_wp2;go_end0;exact⟨rfl,H.o⟩
theorem hear_quiet {p:PPat}{a:PAns}(h:¬(p.fin=0∧a.err≠0)):p.hear a=p:=by unfold PPat.hear;rw[if_neg h]
theorem hear_err {p:PPat}{a:PAns}(h:p.fin=0∧a.err≠0):p.hear a=p.stop 4 a.err (-1):=by unfold PPat.hear;rw[if_pos h]
theorem pat_stopped (b:Nat)(t:TypeId)(p:PPat)(r:List Value)(h:Sat ω w (bk b t (ptC p r)*F))(a:PAns):
  Calls Tryz.prog 391 #[.pointer (some ⟨b,0,none⟩),ansA a] w (Rets ω F (.bool (decide ((p.hear a).fin≠0))) (bk b t (ptC (p.hear a) r))):=by
 obtain⟨c0,c1,c2,c3,c4,f,lt⟩:=PtAt.of h.blk;obtain⟨xw,⟨xv,xh,xo⟩,xd,xe⟩:=a;have H:=h_ h;simp only[ansA];clear h;by_cases h0:p.fin=0
 ·by_cases h1:xe=0
  ·rw[hear_quiet (fun h=>h.2 h1)]
   subst h1;rw[h0] at c2;rw[h0];go_enter Tryz.func391,Tryz.ntmps391;go_wp2;go_ret;exact⟨rfl,H.o.junk _⟩
  ·rw[hear_err ⟨h0,h1⟩];have d:((xe:Int)==0)=false:=by simpa using h1
   have d2:((xe:Int) != 0)=true:=by simpa using h1
   rw[h0] at c2;have HS:=h_ (fun w1 F1 (h1:Sat ω w1 (bk b t (ptC p r)*F1))=>pat_stop ω w1 F1 b t p r h1 4 xe (-1))
   go_enter Tryz.func391,Tryz.ntmps391;go_wp2_with (go_at_call 392;refine(HS.o _ _ (H.o.junk _)).mono ?_;rintro e w1 ⟨rfl,hs⟩;have k:=PtAt.of hs.blk;have k2:w1.cell? ⟨b,2,none⟩=some (.int .i64 4):=k.c2;have HX:=h_ hs;clear k hs);go_ret;exact⟨rfl,HX.o⟩
 ·rw[hear_quiet (fun h=>h0 h.1)]
  have d:((p.fin:Int)==0)=false:=by simpa using h0
  have d2:((p.fin:Int) != 0)=true:=by simpa using h0
  rw[decide_eq_true h0];go_enter Tryz.func391,Tryz.ntmps391;go_wp2;go_ret;exact⟨rfl,H.o.junk _⟩
theorem pat_waits (b:Nat)(t:TypeId)(p:PPat)(r:List Value)(h:Sat ω w (bk b t (ptC p r)*F))(l:PLk):
  Calls Tryz.prog 394 #[.pointer (some ⟨b,0,none⟩),lkA l] w (Rets ω F (.bool (p.waits l).1) (bk b t (ptC (p.waits l).2 r))):=by
 obtain⟨c0,c1,c2,c3,c4,f,lt⟩:=PtAt.of h.blk;obtain⟨xv,xh,xo⟩:=l;have H:=h_ h;simp only[lkA];have HE:Hid (p.waits ⟨xv,xh,xo⟩=if p.me<xo then(true,p) else(decide (0≤wrap64 (p.spins-1)),{ p with spins:=wrap64 (p.spins-1) })):=rfl
 rw[HE.o];by_cases h0:p.me<xo
 ·rw[if_pos h0];clear h;go_enter Tryz.func394,Tryz.ntmps394;go_wp2;go_quiet (fail);go_wp2;go_ret;exact⟨rfl,(H.o.junk _).drewN _⟩
 ·rw[if_neg h0];have HX:Hid (∀w1,Sat ω w1 (bk b t (ptC p r)*F)→Sat ω (w1.setCell ⟨b,1,none⟩ (.int .i64 (wrap64 (p.spins-1)))) (bk b t (ptC { p with spins:=wrap64 (p.spins-1) } r)*F)):=h_ (fun w1 h1=>h1.put 1 _ rfl)
  clear h;go_enter Tryz.func394,Tryz.ntmps394;go_wp2;go_quiet (fail);go_wp2;go_ret;exact⟨rfl,HX.o _ ((H.o.junk _).drewN _)⟩
def ptA (p:PPat):Value:=.agg #[.int .i64 p.me,.int .i64 p.spins,.int .i64 p.fin,.int .i64 p.by_,.int .i64 p.err]
theorem pat_new (w:World)(me spins:Nat):Calls Tryz.prog 162 #[.int .i64 me,.int .i64 spins] w fun e w'=>e=.returned (ptA (PPat.new me spins))∧Only Nob w w':=by
 rcases(by omega:spins=0∨(1≤spins∧spins≤4)∨5≤spins) with hs|⟨h1,h2⟩|h1
 ·subst hs;have HE:Hid (ptA (PPat.new me 0)=.agg #[.int .i64 me,.int .i64 0,.int .i64 0,.int .i64 (-1),.int .i64 0]):=h_ (by simp[ptA,PPat.new])
  rw[HE.o];go_enter Tryz.func162,Tryz.ntmps162;go_wp2;refine bodyPost_ret (v:=.agg #[.int .i64 me,.int .i64 0,.int .i64 0,.int .i64 (-1),.int .i64 0]) (by simp[results,Tryz.results162,go_sem]) rfl ⟨rfl,?_⟩
  repeat' (first|(with_reducible first|refine Only.setCell ?_ ?_ _|refine Only.alloc ?_ _|refine Only.drewN ?_ _|refine Only.drew ?_|exact Only.refl _ _)|(right;simp;done)|(right;simp;omega))
 ·have g1:(0:Int)<(spins:Int):=by omega
  have g2:(spins:Int)≤4:=by omega
  have HE:Hid (ptA (PPat.new me spins)=.agg #[.int .i64 me,.int .i64 spins,.int .i64 0,.int .i64 (-1),.int .i64 0]):=h_ (by simp[ptA,PPat.new,Nat.min_eq_left h2])
  rw[HE.o];go_enter Tryz.func162,Tryz.ntmps162;go_wp2;refine bodyPost_ret (v:=.agg #[.int .i64 me,.int .i64 spins,.int .i64 0,.int .i64 (-1),.int .i64 0]) (by simp[results,Tryz.results162,go_sem]) rfl ⟨rfl,?_⟩
  repeat' (first|(with_reducible first|refine Only.setCell ?_ ?_ _|refine Only.alloc ?_ _|refine Only.drewN ?_ _|refine Only.drew ?_|exact Only.refl _ _)|(right;simp;done)|(right;simp;omega))
 ·have g1:(4:Int)<(spins:Int):=by omega
  have HE:Hid (ptA (PPat.new me spins)=.agg #[.int .i64 me,.int .i64 4,.int .i64 0,.int .i64 (-1),.int .i64 0]):=h_ (by simp[ptA,PPat.new,Nat.min_eq_right (show 4≤spins by omega)])
  rw[HE.o];go_enter Tryz.func162,Tryz.ntmps162;go_wp2;refine bodyPost_ret (v:=.agg #[.int .i64 me,.int .i64 4,.int .i64 0,.int .i64 (-1),.int .i64 0]) (by simp[results,Tryz.results162,go_sem]) rfl ⟨rfl,?_⟩
  repeat' (first|(with_reducible first|refine Only.setCell ?_ ?_ _|refine Only.alloc ?_ _|refine Only.drewN ?_ _|refine Only.drew ?_|exact Only.refl _ _)|(right;simp;done)|(right;simp;omega))
end
def feR (f:PFe):List Value:=[.int .i64 f.at_,.int .i64 f.stripe,.int .u64 f.stamp,.int .i64 f.state,.int .u64 f.lock.ver,.bool f.lock.held,.int .i64 f.lock.own,.int .u64 f.word]
def feC (f:PFe):Array Value:=ptC f.rule (feR f)
def fetchH (b:Nat)(f:PFe):HP:=bk b 283 (feC f)
structure FeAt (w:World) (b:Nat) (f:PFe):Prop extends PtAt w b f.rule where
 c5:w.cell? ⟨b,5,none⟩=some (.int .i64 f.at_)
 c6:w.cell? ⟨b,6,none⟩=some (.int .i64 f.stripe)
 c7:w.cell? ⟨b,7,none⟩=some (.int .u64 f.stamp)
 c8:w.cell? ⟨b,8,none⟩=some (.int .i64 f.state)
 c9:w.cell? ⟨b,9,none⟩=some (.int .u64 f.lock.ver)
 c10:w.cell? ⟨b,10,none⟩=some (.bool f.lock.held)
 c11:w.cell? ⟨b,11,none⟩=some (.int .i64 f.lock.own)
 c12:w.cell? ⟨b,12,none⟩=some (.int .u64 f.word)
theorem FeAt.of {w:World}{b:Nat}{f:PFe}(h:Blk w b 283 (feC f)):FeAt w b f :=
 ⟨PtAt.of h,h.cell 5,h.cell 6,h.cell 7,h.cell 8,h.cell 9,h.cell 10,h.cell 11,h.cell 12⟩
theorem Sat.bkNew {ω w:World}{F:HP}{cs ds:Array Value}{t:TypeId}(h:Sat ω w F)(e:cs=ds):Sat ω (w.alloc (.cells cs t)) (bk w.heap.size t ds*F):=e▸h.new cs t
def RetP (ω:World)(F:HP)(Q:Nat→HP)(e:Ending)(w':World):Prop:=∃b,e=.returned (.pointer (some ⟨b,0,none⟩))∧Sat ω w' (Q b*F)
theorem fe_new (ω w:World)(F:HP)(h:Sat ω w F)(me at_ stripe spins stamp:Nat):
  Calls Tryz.prog 158 #[.int .i64 me,.int .i64 at_,.int .i64 stripe,.int .i64 spins,.int .u64 stamp] w (RetP ω F fun b=>fetchH b (PFe.new me at_ stripe spins stamp)):=by
 have H:=h_ h;clear h;obtain⟨p,hp⟩:∃p,PPat.new me spins=p:=⟨_,rfl⟩;have HP:Hid (∀w1,Calls Tryz.prog 162 #[.int .i64 me,.int .i64 spins] w1 fun e w'=>e=.returned (ptA p)∧Only Nob w1 w'):=h_ (fun w1=>hp▸pat_new w1 me spins)
 have HE:Hid (feC (PFe.new me at_ stripe spins stamp)=ptC p [.int .i64 at_,.int .i64 stripe,.int .u64 stamp,.int .i64 0,.int .u64 0,.bool false,.int .i64 0,.int .u64 0]):=h_ (by rw[←hp];rfl)
 clear hp;obtain⟨pm,ps,pf,pb,pe⟩:=p;simp only[ptA] at HP;go_enter Tryz.func158,Tryz.ntmps158;go_wp2_with (go_at_call 162;refine(HP.o _).mono ?_;rintro e w1 ⟨rfl,ho⟩;have HO:=h_ ho;clear ho);go_ret;exact⟨_,rfl,(H.o.nob HO.o).bkNew (by rw[HE.o];rfl)⟩
theorem fe_next (w:World)(b:Nat)(f:PFe)(h:Blk w b 283 (feC f)):
  Calls Tryz.prog 388 #[.pointer (some ⟨b,0,none⟩)] w fun e w'=>e=.returned (.tuple #[opA f.next.1,.bool f.next.2])∧Only Nob w w':=by
 obtain⟨⟨c0,c1,c2,c3,c4,fz,lt⟩,c5,c6,c7,c8,c9,c10,c11,c12⟩:=FeAt.of h;have HE:Hid (f.next=if f.rule.fin≠0 then(POp.zero,false) else if f.state=1 then(POp.at' 1 f.at_,true) else(POp.at' 3 f.stripe,true)):=rfl
 rw[HE.o];clear h;by_cases h0:f.rule.fin=0
 ·rw[h0] at c2;rw[if_neg (by simpa using h0)]
  by_cases h1:f.state=1
  ·rw[h1] at c8;rw[if_pos h1];clear h0 h1 HE;go_enter Tryz.func388,Tryz.ntmps388;go_wp2;refine bodyPost_ret (v:=.tuple #[opA (POp.at' 1 f.at_),.bool true]) (by simp[results,Tryz.results388,go_sem,opA,POp.at',POp.zero,PLk.zero]) rfl ⟨rfl,?_⟩
   repeat' (first|(with_reducible first|refine Only.setCell ?_ ?_ _|refine Only.alloc ?_ _|refine Only.drewN ?_ _|refine Only.drew ?_|exact Only.refl _ _)|(right;simp;done)|(right;simp;omega))
  ·rw[if_neg h1];have d:((f.state:Int)==1)=false:=by rw[beq_eq_false_iff_ne];omega
   clear h0 HE;go_enter Tryz.func388,Tryz.ntmps388;go_wp2;refine bodyPost_ret (v:=.tuple #[opA (POp.at' 3 f.stripe),.bool true]) (by simp[results,Tryz.results388,go_sem,opA,POp.at',POp.zero,PLk.zero]) rfl ⟨rfl,?_⟩
   repeat' (first|(with_reducible first|refine Only.setCell ?_ ?_ _|refine Only.alloc ?_ _|refine Only.drewN ?_ _|refine Only.drew ?_|exact Only.refl _ _)|(right;simp;done)|(right;simp;omega))
 ·rw[if_pos h0];have d:((f.rule.fin:Int) != 0)=true:=by simpa using h0
  clear h0 HE;go_enter Tryz.func388,Tryz.ntmps388;go_wp2;refine bodyPost_ret (v:=.tuple #[opA POp.zero,.bool false]) (by simp[results,Tryz.results388,go_sem,opA,POp.zero,PLk.zero]) rfl ⟨rfl,?_⟩
  repeat' (first|(with_reducible first|refine Only.setCell ?_ ?_ _|refine Only.alloc ?_ _|refine Only.drewN ?_ _|refine Only.drew ?_|exact Only.refl _ _)|(right;simp;done)|(right;simp;omega))
theorem fe_found (ω w:World)(F:HP)(b:Nat)(f:PFe)(h:Sat ω w (fetchH b f*F))(l:PLk):
  Calls Tryz.prog 393 #[.pointer (some ⟨b,0,none⟩),lkA l] w (Rets ω F (.tuple #[]) (fetchH b (f.found l))):=by
 obtain⟨⟨c0,c1,c2,c3,c4,fz,lt⟩,c5,c6,c7,c8,c9,c10,c11,c12⟩:=FeAt.of h.blk;have lt1:b<w.heap.size+1:=by omega
 have H:=h_ h;obtain⟨xv,xh,xo⟩:=l;have HE:Hid (f.found ⟨xv,xh,xo⟩=(let f:={ f with state:=0 };if xh then(let r:=f.rule.waits ⟨xv,xh,xo⟩;if r.1 then { f with rule:=r.2 } else { f with rule:=r.2.stop 5 0 xo }) else if f.stamp<xv then { f with rule:=f.rule.stop 6 0 (-1) } else { f with lock:=⟨xv,xh,xo⟩,state:=1 })):=rfl
 rw[HE.o];clear h HE;have H8:Hid (∀w1 F1,Sat ω w1 (fetchH b f*F1)→Sat ω (w1.setCell ⟨b,8,none⟩ (.int .i64 0)) (fetchH b { f with state:=0 }*F1)):=h_ (fun w1 F1 h1=>h1.put 8 (.int .i64 0) rfl)
 have HB:=h_ (fun w1 F1 (h1:Sat ω w1 (fetchH b { f with state:=0 }*F1))=>h1.blk)
 simp only[lkA];cases xh
 ·simp only[Bool.false_eq_true,if_false];by_cases h1:f.stamp<xv
  ·rw[if_pos h1];have HS:=h_ (fun w1 (h1:Sat ω w1 (fetchH b { f with state:=0 }*F))=>pat_stop ω w1 F b 283 f.rule (feR { f with state:=0 }) h1 6 0 (-1))
   go_enter Tryz.func393,Tryz.ntmps393;go_wp2;go_quiet (fail);go_wp2_with (go_at_call 392;refine(HS.o _ (by repeat' (first|(with_reducible first|refine Sat.drewN ?_ _|refine Sat.drew ?_|refine Sat.junk ?_ _)|(exact H8.o _ _ H.o)))).mono ?_;rintro e w1 ⟨rfl,hs⟩;have HX:=h_ hs;clear hs)
   go_end0;exact⟨rfl,HX.o⟩
  ·rw[if_neg h1];have HL:Hid (∀w1,Sat ω w1 (fetchH b { f with state:=0 }*F)→Sat ω ((((w1.setCell ⟨b,9,none⟩ (.int .u64 xv)).setCell ⟨b,10,none⟩ (.bool false)).setCell ⟨b,11,none⟩ (.int .i64 xo)).setCell ⟨b,8,none⟩ (.int .i64 1)) (fetchH b { f with state:=1,lock:=⟨xv,false,xo⟩ }*F)):=h_ (fun w1 h1=>(((h1.set 9 _).set 10 _).set 11 _).put 8 _ rfl)
   go_enter Tryz.func393,Tryz.ntmps393;go_wp2;go_quiet (fail);go_wp2;go_end0;refine⟨rfl,?_⟩;refine HL.o _ ?_;repeat' (first|(with_reducible first|refine Sat.drewN ?_ _|refine Sat.junk ?_ _)|(exact H8.o _ _ H.o))
 ·simp only[if_true];have HBX:Hid (Sat ω ((w.setCell ⟨b,8,none⟩ (.int .i64 0)).alloc (.cells #[.int .u64 xv,.bool true,.int .i64 xo] 93)) (fetchH b { f with state:=0 }*(bk w.heap.size 93 #[.int .u64 xv,.bool true,.int .i64 xo]*F))):=h_ (by
   have h9:=((H8.o _ _ H.o).new #[.int .u64 xv,.bool true,.int .i64 xo] 93).swap
   rwa [show(w.setCell ⟨b,8,none⟩ (.int .i64 0)).heap.size=w.heap.size by simp[World.setCell]] at h9)
  have HW:Hid (∀w1 F1,Sat ω w1 (fetchH b { f with state:=0 }*F1)→Calls Tryz.prog 394 #[.pointer (some ⟨b,0,none⟩),.agg #[.int .u64 xv,.bool true,.int .i64 xo]] w1 (Rets ω F1 (.bool (f.rule.waits ⟨xv,true,xo⟩).1) (fetchH b { f with state:=0,rule:=(f.rule.waits ⟨xv,true,xo⟩).2 }))):=h_ (fun w1 F1 h1=>pat_waits ω w1 F1 b 283 f.rule (feR { f with state:=0 }) h1 ⟨xv,true,xo⟩)
  generalize f.rule.waits ⟨xv,true,xo⟩=r at *
  obtain⟨ok,r⟩:=r;simp only at HW ⊢;cases ok
  ·have HS:Hid (∀w1,Sat ω w1 (fetchH b { f with state:=0,rule:=r }*F)→Calls Tryz.prog 392 #[.pointer (some ⟨b,0,none⟩),.int .i64 5,.int .i64 0,.int .i64 xo] w1 (fun e w'=>e=.returned (.tuple #[])∧Sat ω w' (fetchH b { f with state:=0,rule:=r.stop 5 0 (xo:Int) }*F))):=h_ (fun w1 h1=>pat_stop ω w1 F b 283 r (feR { f with state:=0 }) h1 5 0 (xo:Int))
   go_enter Tryz.func393,Tryz.ntmps393;go_wp2;refine rT 4 ?_;simp only[sD,sE,sF,sG];repeat still_step
   refine wpStill_nil ?_;go_wp2_with (go_at_call 394;refine(HW.o _ _ (by repeat' (first|(exact HBX.o)|(with_reducible refine Sat.drew ?_)))).mono ?_;rintro e w1 ⟨rfl,hs⟩;have q:=hs.right.blk;have q2:=q.cell 2;have ql:=q.lt;have HX:=h_ hs.swap.right;clear q hs)
   refine rT 5 ?_;simp only[sD,sE,sF,sG];repeat still_step
   refine wpStill_nil ?_;go_wp2_with (go_at_call 392;refine(HS.o _ HX.o.drew).mono ?_;rintro e w2 ⟨rfl,hs⟩;have HY:=h_ hs;clear hs);go_end0;exact⟨rfl,HY.o⟩
  ·simp only[if_true];go_enter Tryz.func393,Tryz.ntmps393;go_wp2;refine rT 4 ?_;simp only[sD,sE,sF,sG];repeat still_step
   refine wpStill_nil ?_;go_wp2_with (go_at_call 394;refine(HW.o _ _ (by repeat' (first|(exact HBX.o)|(with_reducible refine Sat.drew ?_)))).mono ?_;rintro e w1 ⟨rfl,hs⟩;have q:=hs.right.blk;have q2:=q.cell 2;have ql:=q.lt;have HX:=h_ hs.swap.right;clear q hs)
   go_end0;exact⟨rfl,HX.o⟩
section
def RetR (ω:World)(F:HP)(e:TypeId)(size n:Nat)(xs:List Value)(en:Ending)(w':World):Prop:=∃A c,en=.returned (.slice A n c)∧Sat ω w' (row e size (.slice A n c) n xs*F)
theorem Sat.rowForm {ω w:World}{e:TypeId}{size n:Nat}{v:Value}{xs:List Value}{F:HP}(h:Sat ω w (row e size v n xs*F)):∃A c,v=.slice A n c:=by
 rcases h.cases with⟨h1,h2,_,_⟩|⟨g,cap,cur,h1,_⟩
 ·exact⟨none,0,by rw[h1,h2]⟩
 ·exact⟨_,_,h1⟩
theorem Sat.reads {ω w:World}{e:TypeId}{size n c:Nat}{A:Option Addr}{xs:List Value}{F:HP}(h:Sat ω w (row e size (.slice A n c) n xs*F)):Reads w w.heap.size size A n xs:=Reads.of_own h.owns
section
variable {P : Program} {ω w : World} {G : HP}
theorem wpList_append_sat {ops:Array Oper}{rest:List Oper}{o:Oper}{a:Act}{Q:Exit→Act→World→Prop}(hgd:o.guard=none)(s x:Operand)(t:TypeId)
  (ho:o.op=.call { callee:=.builtin .append,args:=#[s,x],argTypes:=#[t,t] })
  (e:TypeId) (i:TypeInfo) (z:Value) (size bytes:Nat) (ht:P.underlying t=some (.slice e)) (hi:P.info? e=some i) (hz:i.zero=some z)
  (hsize:i.size=size) (hby:i.bytes=bytes) (hzs:z.cells.size=size) (hsz:0<size)
  (v:Value) (n:Nat) (xs:List Value) (hs:a.eval s=v) (h:Sat ω w (row e size v n xs*G))
  (B:Nat) (A:Option Addr) (m c:Nat) (news:List Value) (hx:a.eval x=.slice A m c) (hr:Reads w B size A m news) (h1:∀u∈news,u.oneCell'=true)
  (h63:n+m≤maxLen) (hbytes:(n+m)*bytes≤140737488355328)
  (hk:∀A' c' w',Sat ω w' (row e size (.slice A' (n+m) c') (n+m) (xs++news)*G)→wpList P ops Q rest (a.put o.dst (.slice A' (n+m) c')) w'):wpList P ops Q (o::rest) a w :=
 wpList_append_any w hgd s x t ho 0 e i z size bytes ht hi hz hsize hby hzs hsz v n xs hs h.owns B A m c news hx hr h1 h63 hbytes (Nat.zero_le _) fun v' w' h2 h3 h4=>by
  have h5:=h.grown h3 h4 h2;obtain⟨A',c',rfl⟩:=h5.rowForm;exact hk A' c' w' h5
theorem step_append_sat {ops:Array Oper}{o:Oper}{a:Act}{K:Act→World→Prop}{Q:Exit→Act→World→Prop}{E:Prop}(hgd:o.guard=none)(s x:Operand)(t:TypeId)
  (ho:o.op=.call { callee:=.builtin .append,args:=#[s,x],argTypes:=#[t,t] })
  (e:TypeId) (i:TypeInfo) (z:Value) (size bytes:Nat) (ht:P.underlying t=some (.slice e)) (hi:P.info? e=some i) (hz:i.zero=some z)
  (hsize:i.size=size) (hby:i.bytes=bytes) (hzs:z.cells.size=size) (hsz:0<size)
  (v:Value) (n:Nat) (xs:List Value) (hs:a.eval s=v) (h:Sat ω w (row e size v n xs*G))
  (B:Nat) (A:Option Addr) (m c:Nat) (news:List Value) (hx:a.eval x=.slice A m c) (hr:Reads w B size A m news) (h1:∀u∈news,u.oneCell'=true)
  (h63:n+m≤maxLen) (hbytes:(n+m)*bytes≤140737488355328)
  (hk:∀A' c' w',Sat ω w' (row e size (.slice A' (n+m) c') (n+m) (xs++news)*G)→K (a.put o.dst (.slice A' (n+m) c')) w'):if Region.wanted o (yielded ops a.tmps)=true then Oper.wp P o a w K Q else E :=
 step_append_any w hgd s x t ho 0 e i z size bytes ht hi hz hsize hby hzs hsz v n xs hs h.owns B A m c news hx hr h1 h63 hbytes (Nat.zero_le _) fun v' w' h2 h3 h4=>by
  have h5:=h.grown h3 h4 h2;obtain⟨A',c',rfl⟩:=h5.rowForm;exact hk A' c' w' h5
theorem sap {ops:Array Oper}{o:Oper}{a:Act}{K:Act→World→Prop}{Q:Exit→Act→World→Prop}{E:Prop}{s x:Operand}(t e:TypeId){i:TypeInfo}{z:Value}(size bytes:Nat)(ht:P.underlying t=some (.slice e))(hi:P.info? e=some i)(hz:i.zero=some z)
  (hsize:i.size=size) (hby:i.bytes=bytes) {v:Value} {n:Nat} {xs:List Value} (h:Sat ω w (row e size v n xs*G)) {B:Nat} {A:Option Addr} {m c:Nat} {news:List Value} (hr:Reads w B size A m news) (h1:∀u∈news,u.oneCell'=true)
  (hk:∀A' c' w',Sat ω w' (row e size (.slice A' (n+m) c') (n+m) (xs++news)*G)→K (a.put o.dst (.slice A' (n+m) c')) w')
  (hgd:o.guard=none:=by rfl) (ho:o.op=.call { callee:=.builtin .append,args:=#[s,x],argTypes:=#[t,t] }:=by rfl) (hzs:z.cells.size=size:=by rfl) (hsz:0<size:=by decide) (hs:a.eval s=v:=by rfl) (hx:a.eval x=.slice A m c:=by rfl)
  (h63:n+m≤maxLen:=by unfold maxLen;first|done|omega) (hbytes:(n+m)*bytes≤140737488355328:=by first|done|omega):if Region.wanted o (yielded ops a.tmps)=true then Oper.wp P o a w K Q else E :=
 step_append_sat hgd s x t ho e i z size bytes ht hi hz hsize hby hzs hsz v n xs hs h B A m c news hx hr h1 h63 hbytes hk
end
end
section
variable (ω w : World) (F : HP)
theorem infoSeen_:(Tryz.prog.info? 148).map (fun i=>(i.zero,i.size,i.bytes))=some (some (.agg #[.int .i64 0,.int .u64 0]),2,16):=by kernel_rfl
theorem cloneSeen (A:Option Addr)(n c:Nat)(xs:List Value)(h:Sat ω w (row 148 2 (.slice A n c) n xs*F))(hn:n≤1000000)(h1:∀u∈xs,u.oneCell'=true):
  Calls Tryz.prog 143 #[.slice A n c] w (RetR ω (row 148 2 (.slice A n c) n xs*F) 148 2 n xs):=by
 have H:=h_ h;have H1:=h_ h1;obtain⟨i0,hi,hz⟩:=Option.map_eq_some_iff.1 infoSeen_;simp only[Prod.mk.injEq] at hz;obtain⟨hz0,hz1,hz2⟩:=hz;have HI:=h_ hi;have HZ0:=h_ hz0;have HZ1:=h_ hz1;have HZ2:=h_ hz2;rcases h.cases with⟨h2,h3,h4,h5⟩|⟨g,cap,cur,h2,h3,h4,h5,h6,h7,h8⟩
 ·injection h2 with h2a h2b h2c
  subst h2a h2c;clear hi hz0 hz1 hz2 h1 h5 H1;subst h3 h4;clear h h2b;have HX:=h_ (H.o.nil 148 2);have qT:∀(w:World) (a:Option Addr) (n c n' c':Nat),(binOp .eql 145 (.slice a n c) (.slice none n' c')).run Tryz.prog w=.ok (.bool a.isNone) w:=fun w a n c n' c'=>Lib.run_eql_slice_nil w _ _ a n c n' c' Tryz.underlying145
  go_enter Tryz.func143,Tryz.ntmps143;go_wp2;go_ret;exact⟨none,0,rfl,HX.o⟩
 ·injection h2 with h2a h2b h2c
  subst h2a;clear hi hz0 hz1 hz2 h1 h3 h4 h5 h6 h7 h8 h2b h2c;have HRD:Hid (Reads w w.heap.size 2 (some ⟨g,0,none⟩) n xs):=h_ h.reads;have HB:Hid (Sat ω (w.alloc (.cells #[] 148)) (row 148 2 (.slice (some ⟨w.heap.size,0,none⟩) 0 0) 0 []*(row 148 2 (.slice (some ⟨g,0,none⟩) n c) n xs*F))):=h_ (by
   have h9:=(h.new #[] 148).rowOf (n:=0) (size:=2) rfl (Nat.zero_le _);exact h9)
  clear h;have qT:∀(w:World) (a:Option Addr) (n c n' c':Nat),(binOp .eql 145 (.slice a n c) (.slice none n' c')).run Tryz.prog w=.ok (.bool a.isNone) w:=fun w a n c n' c'=>Lib.run_eql_slice_nil w _ _ a n c n' c' Tryz.underlying145
  go_enter Tryz.func143,Tryz.ntmps143;go_wp2_with (at_builtin;refine wpList_append_sat rfl _ _ 145 rfl 148 i0 _ 2 16 Tryz.underlying145 HI.o HZ0.o HZ1.o HZ2.o rfl (by decide) _ _ _ rfl HB.o _ _ _ _ _ rfl (HRD.o.alloc (Nat.le_refl _) _) H1.o (by unfold maxLen;omega) (by omega) ?_;intro A' c' w' hs;simp only[Nat.zero_add,List.nil_append] at hs ⊢;have HS:=h_ hs;clear hs)
  go_ret;exact⟨_,_,rfl,HS.o⟩
theorem infoCell_:(Tryz.prog.info? 54).map (fun i=>(i.zero,i.size,i.bytes))=some (some (.agg #[.int .i64 0,.int .u64 0]),2,16):=by kernel_rfl
theorem cloneCell (A:Option Addr)(n c:Nat)(xs:List Value)(h:Sat ω w (row 54 2 (.slice A n c) n xs*F))(hn:n≤1000000)(h1:∀u∈xs,u.oneCell'=true):
  Calls Tryz.prog 106 #[.slice A n c] w (RetR ω (row 54 2 (.slice A n c) n xs*F) 54 2 n xs):=by
 have H:=h_ h;have H1:=h_ h1;obtain⟨i0,hi,hz⟩:=Option.map_eq_some_iff.1 infoCell_;simp only[Prod.mk.injEq] at hz;obtain⟨hz0,hz1,hz2⟩:=hz;have HI:=h_ hi;have HZ0:=h_ hz0;have HZ1:=h_ hz1;have HZ2:=h_ hz2;rcases h.cases with⟨h2,h3,h4,h5⟩|⟨g,cap,cur,h2,h3,h4,h5,h6,h7,h8⟩
 ·injection h2 with h2a h2b h2c
  subst h2a h2c;clear hi hz0 hz1 hz2 h1 h5 H1;subst h3 h4;clear h h2b;have HX:=h_ (H.o.nil 54 2);have qT:∀(w:World) (a:Option Addr) (n c n' c':Nat),(binOp .eql 49 (.slice a n c) (.slice none n' c')).run Tryz.prog w=.ok (.bool a.isNone) w:=fun w a n c n' c'=>Lib.run_eql_slice_nil w _ _ a n c n' c' Tryz.underlying49
  go_enter Tryz.func106,Tryz.ntmps106;go_wp2;go_ret;exact⟨none,0,rfl,HX.o⟩
 ·injection h2 with h2a h2b h2c
  subst h2a;clear hi hz0 hz1 hz2 h1 h3 h4 h5 h6 h7 h8 h2b h2c;have HRD:Hid (Reads w w.heap.size 2 (some ⟨g,0,none⟩) n xs):=h_ h.reads;have HB:Hid (Sat ω (w.alloc (.cells #[] 54)) (row 54 2 (.slice (some ⟨w.heap.size,0,none⟩) 0 0) 0 []*(row 54 2 (.slice (some ⟨g,0,none⟩) n c) n xs*F))):=h_ (by
   have h9:=(h.new #[] 54).rowOf (n:=0) (size:=2) rfl (Nat.zero_le _);exact h9)
  clear h;have qT:∀(w:World) (a:Option Addr) (n c n' c':Nat),(binOp .eql 49 (.slice a n c) (.slice none n' c')).run Tryz.prog w=.ok (.bool a.isNone) w:=fun w a n c n' c'=>Lib.run_eql_slice_nil w _ _ a n c n' c' Tryz.underlying49
  go_enter Tryz.func106,Tryz.ntmps106;go_wp2_with (at_builtin;refine wpList_append_sat rfl _ _ 49 rfl 54 i0 _ 2 16 Tryz.underlying49 HI.o HZ0.o HZ1.o HZ2.o rfl (by decide) _ _ _ rfl HB.o _ _ _ _ _ rfl (HRD.o.alloc (Nat.le_refl _) _) H1.o (by unfold maxLen;omega) (by omega) ?_;intro A' c' w' hs;simp only[Nat.zero_add,List.nil_append] at hs ⊢;have HS:=h_ hs;clear hs)
  go_ret;exact⟨_,_,rfl,HS.o⟩
theorem infoInt_:(Tryz.prog.info? 3).map (fun i=>(i.zero,i.size,i.bytes))=some (some (.int .i64 0),1,8):=by kernel_rfl
theorem infoWord_:(Tryz.prog.info? 22).map (fun i=>(i.zero,i.size,i.bytes))=some (some (.int .u64 0),1,8):=by kernel_rfl
theorem cloneWord (A:Option Addr)(n c:Nat)(xs:List Value)(h:Sat ω w (row 22 1 (.slice A n c) n xs*F))(hn:n≤1000000)(h1:∀u∈xs,u.oneCell'=true):
  Calls Tryz.prog 111 #[.slice A n c] w (RetR ω (row 22 1 (.slice A n c) n xs*F) 22 1 n xs):=by
 have H:=h_ h;have H1:=h_ h1;obtain⟨i0,hi,hz⟩:=Option.map_eq_some_iff.1 infoWord_;simp only[Prod.mk.injEq] at hz;obtain⟨hz0,hz1,hz2⟩:=hz;have HI:=h_ hi;have HZ0:=h_ hz0;have HZ1:=h_ hz1;have HZ2:=h_ hz2;rcases h.cases with⟨h2,h3,h4,h5⟩|⟨g,cap,cur,h2,h3,h4,h5,h6,h7,h8⟩
 ·injection h2 with h2a h2b h2c
  subst h2a h2c;clear hi hz0 hz1 hz2 h1 h5 H1;subst h3 h4;clear h h2b;have HX:=h_ (H.o.nil 22 1);have qT:∀(w:World) (a:Option Addr) (n c n' c':Nat),(binOp .eql 58 (.slice a n c) (.slice none n' c')).run Tryz.prog w=.ok (.bool a.isNone) w:=fun w a n c n' c'=>Lib.run_eql_slice_nil w _ _ a n c n' c' Tryz.underlying58
  go_enter Tryz.func111,Tryz.ntmps111;go_wp2;go_ret;exact⟨none,0,rfl,HX.o⟩
 ·injection h2 with h2a h2b h2c
  subst h2a;clear hi hz0 hz1 hz2 h1 h3 h4 h5 h6 h7 h8 h2b h2c;have HRD:Hid (Reads w w.heap.size 1 (some ⟨g,0,none⟩) n xs):=h_ h.reads;have HB:Hid (Sat ω (w.alloc (.cells #[] 22)) (row 22 1 (.slice (some ⟨w.heap.size,0,none⟩) 0 0) 0 []*(row 22 1 (.slice (some ⟨g,0,none⟩) n c) n xs*F))):=h_ (by
   have h9:=(h.new #[] 22).rowOf (n:=0) (size:=1) rfl (Nat.zero_le _);exact h9)
  clear h;have qT:∀(w:World) (a:Option Addr) (n c n' c':Nat),(binOp .eql 58 (.slice a n c) (.slice none n' c')).run Tryz.prog w=.ok (.bool a.isNone) w:=fun w a n c n' c'=>Lib.run_eql_slice_nil w _ _ a n c n' c' Tryz.underlying58
  go_enter Tryz.func111,Tryz.ntmps111;go_wp2_with (at_builtin;refine wpList_append_sat rfl _ _ 58 rfl 22 i0 _ 1 8 Tryz.underlying58 HI.o HZ0.o HZ1.o HZ2.o rfl (by decide) _ _ _ rfl HB.o _ _ _ _ _ rfl (HRD.o.alloc (Nat.le_refl _) _) H1.o (by unfold maxLen;omega) (by omega) ?_;intro A' c' w' hs;simp only[Nat.zero_add,List.nil_append] at hs ⊢;have HS:=h_ hs;clear hs)
  go_ret;exact⟨_,_,rfl,HS.o⟩
theorem infoIns_:(Tryz.prog.info? 87).map (fun i=>(i.zero,i.size,i.bytes))=some (some (.agg #[.int .i64 0,.int .i64 0,.int .i64 0,.int .i64 0,.int .u64 0]),5,40):=by kernel_rfl
theorem cloneIns (A:Option Addr)(n c:Nat)(xs:List Value)(h:Sat ω w (row 87 5 (.slice A n c) n xs*F))(hn:n≤1000000)(h1:∀u∈xs,u.oneCell'=true):
  Calls Tryz.prog 57 #[.slice A n c] w (RetR ω (row 87 5 (.slice A n c) n xs*F) 87 5 n xs):=by
 have H:=h_ h;have H1:=h_ h1;obtain⟨i0,hi,hz⟩:=Option.map_eq_some_iff.1 infoIns_;simp only[Prod.mk.injEq] at hz;obtain⟨hz0,hz1,hz2⟩:=hz;have HI:=h_ hi;have HZ0:=h_ hz0;have HZ1:=h_ hz1;have HZ2:=h_ hz2;rcases h.cases with⟨h2,h3,h4,h5⟩|⟨g,cap,cur,h2,h3,h4,h5,h6,h7,h8⟩
 ·injection h2 with h2a h2b h2c
  subst h2a h2c;clear hi hz0 hz1 hz2 h1 h5 H1;subst h3 h4;clear h h2b;have HX:=h_ (H.o.nil 87 5);have qT:∀(w:World) (a:Option Addr) (n c n' c':Nat),(binOp .eql 30 (.slice a n c) (.slice none n' c')).run Tryz.prog w=.ok (.bool a.isNone) w:=fun w a n c n' c'=>Lib.run_eql_slice_nil w _ _ a n c n' c' Tryz.underlying30
  go_enter Tryz.func57,Tryz.ntmps57;go_wp2;go_ret;exact⟨none,0,rfl,HX.o⟩
 ·injection h2 with h2a h2b h2c
  subst h2a;clear hi hz0 hz1 hz2 h1 h3 h4 h5 h6 h7 h8 h2b h2c;have HRD:Hid (Reads w w.heap.size 5 (some ⟨g,0,none⟩) n xs):=h_ h.reads;have HB:Hid (Sat ω (w.alloc (.cells #[] 87)) (row 87 5 (.slice (some ⟨w.heap.size,0,none⟩) 0 0) 0 []*(row 87 5 (.slice (some ⟨g,0,none⟩) n c) n xs*F))):=h_ (by
   have h9:=(h.new #[] 87).rowOf (n:=0) (size:=5) rfl (Nat.zero_le _);exact h9)
  clear h;have qT:∀(w:World) (a:Option Addr) (n c n' c':Nat),(binOp .eql 30 (.slice a n c) (.slice none n' c')).run Tryz.prog w=.ok (.bool a.isNone) w:=fun w a n c n' c'=>Lib.run_eql_slice_nil w _ _ a n c n' c' Tryz.underlying30
  go_enter Tryz.func57,Tryz.ntmps57;go_wp2_with (at_builtin;refine wpList_append_sat rfl _ _ 30 rfl 87 i0 _ 5 40 Tryz.underlying30 HI.o HZ0.o HZ1.o HZ2.o rfl (by decide) _ _ _ rfl HB.o _ _ _ _ _ rfl (HRD.o.alloc (Nat.le_refl _) _) H1.o (by unfold maxLen;omega) (by omega) ?_;intro A' c' w' hs;simp only[Nat.zero_add,List.nil_append] at hs ⊢;have HS:=h_ hs;clear hs)
  go_ret;exact⟨_,_,rfl,HS.o⟩
theorem infoResult_:(Tryz.prog.info? 66).map (fun i=>(i.zero,i.size,i.bytes))=some (some (.agg #[.int .i64 0,.int .i64 0,.string ⟨#[]⟩,.int .u64 0]),4,40):=by kernel_rfl
theorem cloneResult (A:Option Addr)(n c:Nat)(xs:List Value)(h:Sat ω w (row 66 4 (.slice A n c) n xs*F))(hn:n≤1000000)(h1:∀u∈xs,u.oneCell'=true):
  Calls Tryz.prog 72 #[.slice A n c] w (RetR ω (row 66 4 (.slice A n c) n xs*F) 66 4 n xs):=by
 have H:=h_ h;have H1:=h_ h1;obtain⟨i0,hi,hz⟩:=Option.map_eq_some_iff.1 infoResult_;simp only[Prod.mk.injEq] at hz;obtain⟨hz0,hz1,hz2⟩:=hz;have HI:=h_ hi;have HZ0:=h_ hz0;have HZ1:=h_ hz1;have HZ2:=h_ hz2;rcases h.cases with⟨h2,h3,h4,h5⟩|⟨g,cap,cur,h2,h3,h4,h5,h6,h7,h8⟩
 ·injection h2 with h2a h2b h2c
  subst h2a h2c;clear hi hz0 hz1 hz2 h1 h5 H1;subst h3 h4;clear h h2b;have HX:=h_ (H.o.nil 66 4);have qT:∀(w:World) (a:Option Addr) (n c n' c':Nat),(binOp .eql 61 (.slice a n c) (.slice none n' c')).run Tryz.prog w=.ok (.bool a.isNone) w:=fun w a n c n' c'=>Lib.run_eql_slice_nil w _ _ a n c n' c' Tryz.underlying61
  go_enter Tryz.func72,Tryz.ntmps72;go_wp2;go_ret;exact⟨none,0,rfl,HX.o⟩
 ·injection h2 with h2a h2b h2c
  subst h2a;clear hi hz0 hz1 hz2 h1 h3 h4 h5 h6 h7 h8 h2b h2c;have HRD:Hid (Reads w w.heap.size 4 (some ⟨g,0,none⟩) n xs):=h_ h.reads;have HB:Hid (Sat ω (w.alloc (.cells #[] 66)) (row 66 4 (.slice (some ⟨w.heap.size,0,none⟩) 0 0) 0 []*(row 66 4 (.slice (some ⟨g,0,none⟩) n c) n xs*F))):=h_ (by
   have h9:=(h.new #[] 66).rowOf (n:=0) (size:=4) rfl (Nat.zero_le _);exact h9)
  clear h;have qT:∀(w:World) (a:Option Addr) (n c n' c':Nat),(binOp .eql 61 (.slice a n c) (.slice none n' c')).run Tryz.prog w=.ok (.bool a.isNone) w:=fun w a n c n' c'=>Lib.run_eql_slice_nil w _ _ a n c n' c' Tryz.underlying61
  go_enter Tryz.func72,Tryz.ntmps72;go_wp2_with (at_builtin;refine wpList_append_sat rfl _ _ 61 rfl 66 i0 _ 4 40 Tryz.underlying61 HI.o HZ0.o HZ1.o HZ2.o rfl (by decide) _ _ _ rfl HB.o _ _ _ _ _ rfl (HRD.o.alloc (Nat.le_refl _) _) H1.o (by unfold maxLen;omega) (by omega) ?_;intro A' c' w' hs;simp only[Nat.zero_add,List.nil_append] at hs ⊢;have HS:=h_ hs;clear hs)
  go_ret;exact⟨_,_,rfl,HS.o⟩
end
def seV (x:Nat×Nat):List Value:=[.int .i64 x.1,.int .u64 x.2]
def vS (l:List (Nat×Nat)):List Value:=l.flatMap seV
theorem vS_one (l:List (Nat×Nat)):∀u∈vS l,u.oneCell'=true:=by
 intro u hu;obtain⟨x,_,hx⟩:=List.mem_flatMap.1 hu;simp[seV] at hx;rcases hx with rfl|rfl<;>rfl
theorem Sat.rowAt {ω w:World}{F:HP}{α:Type}{e:TypeId}{size c:Nat}{A:Option Addr}{f:α→List Value}{l:List α}(h:Sat ω w (row e size (.slice A l.length c) l.length (l.flatMap f)*F))(hf:∀x,(f x).length=size)(d:α){i:Nat}(hi:i<l.length):
  ∃g,A=some ⟨g,0,none⟩∧g<w.heap.size∧∀j,j<size→w.cell? ⟨g,i*size+j,none⟩=(f (l.getD i d))[j]?:=by
 rcases h.cases with⟨h1,h2,_⟩|⟨g,cap,cur,h2,h3,h4,h5,h6,h7,h8⟩
 ·omega
 ·injection h2 with h2 _ _
  refine⟨g,h2,h8.blk.lt,fun j hj=>?_⟩
  rw[h8.blk.cell,←flat_at f size hf d l i j hi hj,←h6,List.getElem?_take,if_pos ?_]
  ·simp
  ·calc i*size+j<i*size+size:=by omega
    _=(i+1)*size:=by rw[Nat.succ_mul]
    _≤l.length*size:=Nat.mul_le_mul_right _ hi
def exR (x:PEx)(A:Option Addr)(c:Nat):List Value:=[.slice A x.seen.length c,.bool x.loaded,.int .i64 x.at_,.int .u64 x.stamp]
def exC (x:PEx)(A:Option Addr)(c:Nat):Array Value:=ptC x.rule (exR x A c)
def extHA (b:Nat)(x:PEx)(A:Option Addr)(c:Nat):HP:=bk b 285 (exC x A c)*row 148 2 (.slice A x.seen.length c) x.seen.length (vS x.seen)
def extH (b:Nat)(x:PEx):HP:=ex fun A=>ex fun c=>extHA b x A c
theorem extH_to {ω w:World}{F:HP}{b:Nat}{x:PEx}{A:Option Addr}{c:Nat}(h:Sat ω w (extHA b x A c*F)):Sat ω w (extH b x*F):=Sat.to_ex A (h.impL fun y hy=>⟨c,hy⟩)
theorem extH_of {ω w:World}{F:HP}{b:Nat}{x:PEx}(h:Sat ω w (extH b x*F)):∃A c,Sat ω w (extHA b x A c*F):=by
 obtain⟨A,h⟩:=h.of_ex;obtain⟨c,h⟩:=h.of_ex;exact⟨A,c,h⟩
theorem ex_new (ω w:World)(F:HP)(me spins:Nat)(seen:List (Nat×Nat))(A:Option Addr)(c:Nat)(hn:seen.length≤1000)(h:Sat ω w (row 148 2 (.slice A seen.length c) seen.length (vS seen)*F)):
  Calls Tryz.prog 160 #[.int .i64 me,.int .i64 spins,.slice A seen.length c] w (RetP ω (row 148 2 (.slice A seen.length c) seen.length (vS seen)*F) fun b=>extH b (PEx.new me spins seen)):=by
 have H:=h_ h;obtain⟨p,hp⟩:∃p,PPat.new me spins=p:=⟨_,rfl⟩;have HP:Hid (∀w1,Calls Tryz.prog 162 #[.int .i64 me,.int .i64 spins] w1 fun e w'=>e=.returned (ptA p)∧Only Nob w1 w'):=h_ (fun w1=>hp▸pat_new w1 me spins)
 have HC:Hid (∀w1,Only Nob w w1→Calls Tryz.prog 143 #[.slice A seen.length c] w1 (RetR ω (row 148 2 (.slice A seen.length c) seen.length (vS seen)*F) 148 2 seen.length (vS seen))):=h_ (fun w1 ho=>cloneSeen ω w1 F A seen.length c (vS seen) (h.nob ho) (by omega) (vS_one _))
 have HE:Hid (∀A2 c2,exC (PEx.new me spins seen) A2 c2=ptC p [.slice A2 seen.length c2,.bool false,.int .i64 0,.int .u64 0]):=h_ (fun A2 c2=>by rw[←hp];rfl)
 have HL:Hid ((PEx.new me spins seen).seen=seen):=rfl;clear hp h;obtain⟨pm,ps,pf,pb,pe⟩:=p;simp only[ptA] at HP;generalize PEx.new me spins seen=X at *
 go_enter Tryz.func160,Tryz.ntmps160;go_wp2_with (first
  |(go_at_call 162;refine(HP.o _).mono ?_;rintro e w1 ⟨rfl,ho⟩;have HO:=h_ ho;clear ho)
  |(go_at_call 143;refine(HC.o _ HO.o).mono ?_;rintro e w2 ⟨A2,c2,rfl,hs⟩;have HS:=h_ hs;clear hs))
 go_ret;refine⟨_,rfl,extH_to (A:=A2) (c:=c2) ?_⟩;unfold extHA;rw[HE.o,HL.o];exact(HS.o.bkNew rfl).assoc'
theorem ex_next (ω w:World)(F:HP)(b:Nat)(x:PEx)(h:Sat ω w (extH b x*F))(hn:x.seen.length≤1000)(hok:x.ok):
  Calls Tryz.prog 396 #[.pointer (some ⟨b,0,none⟩)] w fun e w'=>e=.returned (.tuple #[opA x.next.1,.bool x.next.2])∧Only Nob w w':=by
 obtain⟨A,c,h⟩:=extH_of h;obtain⟨⟨me,spins,fin,by_,err⟩,seen,loaded,at_,stamp⟩:=x;have hb:=h.assoc.blk;have lt:=hb.lt;have c2:=hb.c 2;have c5:=hb.c 5;have c6:=hb.c 6;have c7:=hb.c 7;have HE:Hid (PEx.next ⟨⟨me,spins,fin,by_,err⟩,seen,loaded,at_,stamp⟩=if fin≠0 then(POp.zero,false) else if loaded then(POp.at' 3 (seen.getD at_ (0,0)).1,true) else(POp.at' 6 0,true)):=rfl
 rw[HE.o];simp only at hn;by_cases h0:fin=0
 ·subst h0;rw[if_neg (by simp)]
  cases loaded
  ·clear h hb HE hok;rw[if_neg (by simp)]
   go_enter Tryz.func396,Tryz.ntmps396;go_wp2;refine bodyPost_ret (v:=.tuple #[opA (POp.at' 6 0),.bool true]) (by simp[results,Tryz.results396,go_sem,opA,POp.at',POp.zero,PLk.zero]) rfl ⟨rfl,?_⟩
   repeat' (first|(with_reducible first|refine Only.setCell ?_ ?_ _|refine Only.alloc ?_ _|refine Only.drewN ?_ _|refine Only.drew ?_|exact Only.refl _ _)|(right;simp;done)|(right;simp;omega))
  ·have hlt:at_<seen.length:=hok rfl rfl;obtain⟨g,rfl,hg,hc⟩:=(h.assoc.right.perm (Eq.refl _)).rowAt (l:=seen) (f:=seV) (fun _=>rfl) (0,0) hlt
   have d0:w.cell? ⟨g,at_*2,none⟩=some (.int .i64 ((seen.getD at_ (0,0)).1:Int)):=hc 0 (by omega)
   rw[if_pos rfl];generalize (seen.getD at_ (0,0)).1=s at *
   generalize seen.length=n at *
   clear h hb HE hok hc;go_enter Tryz.func396,Tryz.ntmps396;go_wp2;refine rT 12 ?_;simp only[sD,sE,sF,sG];repeat still_step
   refine wpStill_nil ?_;go_wp2;refine bodyPost_ret (v:=.tuple #[opA (POp.at' 3 s),.bool true]) (by simp[results,Tryz.results396,go_sem,opA,POp.at',POp.zero,PLk.zero]) rfl ⟨rfl,?_⟩
   repeat' (first|(with_reducible first|refine Only.setCell ?_ ?_ _|refine Only.alloc ?_ _|refine Only.drewN ?_ _|refine Only.drew ?_|exact Only.refl _ _)|(right;simp;done)|(right;simp;omega))
 ·rw[if_pos h0];have d:((fin:Int) != 0)=true:=by simpa using h0
  clear h hb HE hok h0;go_enter Tryz.func396,Tryz.ntmps396;go_wp2;refine bodyPost_ret (v:=.tuple #[opA POp.zero,.bool false]) (by simp[results,Tryz.results396,go_sem,opA,POp.zero,PLk.zero]) rfl ⟨rfl,?_⟩
  repeat' (first|(with_reducible first|refine Only.setCell ?_ ?_ _|refine Only.alloc ?_ _|refine Only.drewN ?_ _|refine Only.drew ?_|exact Only.refl _ _)|(right;simp;done)|(right;simp;omega))
end Go.Proofs.YtfodmgaliclhfaaGreatDoor
