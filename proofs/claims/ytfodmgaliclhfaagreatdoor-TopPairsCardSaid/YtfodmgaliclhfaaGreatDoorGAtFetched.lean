/- Lemmas for TopPairs; no conditions. -/
import Derived.Test.YtfodmgaliclhfaaGreatDoorGOkCo
namespace Go.Proofs.YtfodmgaliclhfaaGreatDoor
set_option linter.unusedVariables false
set_option linter.unusedSimpArgs false
set_option maxRecDepth 100000
set_option maxHeartbeats 8000000
open Go.RowKit
section
theorem me_feNext (v:Value)(w:World):(method 535 194 v "Next").run Tryz.prog w=.ok (388,v) w:=by kernel_rfl
theorem me_feTell (v:Value)(w:World):(method 535 194 v "Tell").run Tryz.prog w=.ok (389,v) w:=by kernel_rfl
theorem me_feEnd (v:Value)(w:World):(method 535 194 v "End").run Tryz.prog w=.ok (194,v) w:=by kernel_rfl
theorem me_feBy (v:Value)(w:World):(method 535 194 v "By").run Tryz.prog w=.ok (387,v) w:=by kernel_rfl
theorem me_exNext (v:Value)(w:World):(method 535 195 v "Next").run Tryz.prog w=.ok (396,v) w:=by kernel_rfl
theorem me_exTell (v:Value)(w:World):(method 535 195 v "Tell").run Tryz.prog w=.ok (397,v) w:=by kernel_rfl
theorem me_exEnd (v:Value)(w:World):(method 535 195 v "End").run Tryz.prog w=.ok (199,v) w:=by kernel_rfl
theorem me_exBy (v:Value)(w:World):(method 535 195 v "By").run Tryz.prog w=.ok (395,v) w:=by kernel_rfl
theorem me_coNext (v:Value)(w:World):(method 535 196 v "Next").run Tryz.prog w=.ok (399,v) w:=by kernel_rfl
theorem me_coTell (v:Value)(w:World):(method 535 196 v "Tell").run Tryz.prog w=.ok (400,v) w:=by kernel_rfl
theorem me_coEnd (v:Value)(w:World):(method 535 196 v "End").run Tryz.prog w=.ok (145,v) w:=by kernel_rfl
theorem me_coBy (v:Value)(w:World):(method 535 196 v "By").run Tryz.prog w=.ok (398,v) w:=by kernel_rfl
structure AtWell (x:PAt):Prop where
 st:x.state≤8
 s3:x.state=3→∃f,x.inner=.fetch f
 s4:x.state=4∨x.state=5→∃e,x.inner=.extend e∧e.ok∧e.seen.length≤16∧e.at_≤16
 s6:x.state=6→∃c,x.inner=.commit c∧c.set
 nc:x.state≤5→∀c,x.inner≠.commit c
 stamp:x.stamp≤4611686018427387904
def AtNext (w:World)(r:POp×Bool)(e:Ending)(w':World):Prop:=e=.returned (.tuple #[opA r.1,.bool r.2])∧Only Nob w w'
section
variable {ω w : World} {F : HP} {b : Nat} {s : PSt} {x : PAt} {D : AtD}
theorem at_inner (h:Sat ω w (atX b s x D*F)):∃G,Sat ω w (inH D x.inner*G)∧∀w' P i,Sat ω w' (P*(inH D i*G))→Sat ω w' (P*(atX b s { x with inner:=i } D*F)):=by
 unfold atX at h;refine⟨bk b 198 (atC s x D)*(itH D.rb D.vb x.run x.v*(rdH D.db x.reads*F)),h.perm (by ac_rfl),fun w' P i h2=>?_⟩
 unfold atX;exact h2.perm (by ac_rfl)
theorem inH_fe {f:PFe}(h:Sat ω w (inH D (.fetch f)*F)):∃g,D.inn=.iface 194 (.pointer (some ⟨g,0,none⟩))∧D.fp=.pointer (some ⟨g,0,none⟩)∧Sat ω w (fetchH g f*F)∧∀w' P f',Sat ω w' (P*(fetchH g f'*F))→Sat ω w' (P*(inH D (.fetch f')*F)):=by
 obtain⟨g,h1⟩:=h.of_ex;obtain⟨h2,h3⟩:=h1.assoc.of_fact;exact⟨g,h2.1,h2.2.1,h3,fun w' P f' h4=>(Sat.to_ex (f:=fun g9=>fact (D.inn=.iface 194 (pV g9)∧D.fp=pV g9∧D.cp=.pointer none)*fetchH g9 f') g ((h4.swap.to_fact h2).assoc')).swap⟩
theorem inH_ex {f:PEx}(h:Sat ω w (inH D (.extend f)*F)):∃g,D.inn=.iface 195 (.pointer (some ⟨g,0,none⟩))∧D.ep=.pointer (some ⟨g,0,none⟩)∧Sat ω w (extH g f*F)∧∀w' P f',Sat ω w' (P*(extH g f'*F))→Sat ω w' (P*(inH D (.extend f')*F)):=by
 obtain⟨g,h1⟩:=h.of_ex;obtain⟨h2,h3⟩:=h1.assoc.of_fact;exact⟨g,h2.1,h2.2.1,h3,fun w' P f' h4=>(Sat.to_ex (f:=fun g9=>fact (D.inn=.iface 195 (pV g9)∧D.ep=pV g9∧D.cp=.pointer none)*extH g9 f') g ((h4.swap.to_fact h2).assoc')).swap⟩
theorem inH_co {f:PCo}(h:Sat ω w (inH D (.commit f)*F)):∃g,D.inn=.iface 196 (.pointer (some ⟨g,0,none⟩))∧D.cp=.pointer (some ⟨g,0,none⟩)∧Sat ω w (coH g f*F)∧∀w' P f',Sat ω w' (P*(coH g f'*F))→Sat ω w' (P*(inH D (.commit f')*F)):=by
 obtain⟨g,h1⟩:=h.of_ex;obtain⟨h2,h3⟩:=h1.assoc.of_fact;exact⟨g,h2.1,h2.2,h3,fun w' P f' h4=>(Sat.to_ex (f:=fun g9=>fact (D.inn=.iface 196 (pV g9)∧D.cp=pV g9)*coH g9 f') g ((h4.swap.to_fact h2).assoc')).swap⟩
end
theorem at_next0 (ω w:World)(F:HP)(b:Nat)(s:PSt)(x:PAt)(h:Sat ω w (atH b s x*F))(hst:x.state=0)(hsm:x.stamp≤4611686018427387904):
  Calls Tryz.prog 59 #[.pointer (some ⟨b,0,none⟩)] w (AtNext w x.next):=by
 have HE:Hid (x.next=({ POp.at' 9 x.me with word:=1 },true)):=h_ (by unfold PAt.next;rw[hst];rfl)
 obtain⟨D,hx⟩:=atH_of h;have hb:=atX_blk hx;have c14:w.cell? ⟨b,14,none⟩=some (.int .i64 0):=by have:=hb.cell 14;rw[this];show some (Value.int .i64 x.state)=_;rw[hst];rfl
 have c0:=hb.c 0;have c21:=hb.c 21;have lt:=hb.lt;have lt1:b<w.heap.size+1:=by omega
 have hw:IntKind.u64.wrap ((x.stamp:Int)+1)=((x.stamp+1:Nat):Int):=by rw[IntKind.wrap_u64];omega
 rw[HE.o];unfold AtNext opA;try unfold POp.at'
 unfold POp.zero PLk.zero;simp only;generalize x.me=me at *
 generalize x.stamp=stamp at *
 clear h hx hb hst HE;go_enter Tryz.func59,Tryz.ntmps59;go_wp2;refine bodyPost_ret (v:=.tuple #[.agg #[.int .i64 9,.int .i64 me,.int .u64 0,.int .u64 1,.int .u64 0,.bool false,.int .i64 0,.int .u64 0,.bool false,.int .i64 0],.bool true]) (by simp[results,Tryz.results59,go_sem]) rfl ⟨?_,?_⟩
 ·first|rfl|simp
 ·repeat' (first|exact Only.refl _ _|(with_reducible first|refine Only.setCell ?_ ?_ _|refine Only.alloc ?_ _|refine Only.drew ?_))
  all_goals (try exact .inr (Nat.le_refl _))
theorem at_next1 (ω w:World)(F:HP)(b:Nat)(s:PSt)(x:PAt)(h:Sat ω w (atH b s x*F))(hst:x.state=1)(hsm:x.stamp≤4611686018427387904):
  Calls Tryz.prog 59 #[.pointer (some ⟨b,0,none⟩)] w (AtNext w x.next):=by
 have HE:Hid (x.next=(POp.at' 6 0,true)):=h_ (by unfold PAt.next;rw[hst];rfl)
 obtain⟨D,hx⟩:=atH_of h;have hb:=atX_blk hx;have c14:w.cell? ⟨b,14,none⟩=some (.int .i64 1):=by have:=hb.cell 14;rw[this];show some (Value.int .i64 x.state)=_;rw[hst];rfl
 have c0:=hb.c 0;have c21:=hb.c 21;have lt:=hb.lt;have lt1:b<w.heap.size+1:=by omega
 have hw:IntKind.u64.wrap ((x.stamp:Int)+1)=((x.stamp+1:Nat):Int):=by rw[IntKind.wrap_u64];omega
 rw[HE.o];unfold AtNext opA;try unfold POp.at'
 unfold POp.zero PLk.zero;simp only;generalize x.me=me at *
 generalize x.stamp=stamp at *
 clear h hx hb hst HE;go_enter Tryz.func59,Tryz.ntmps59;go_wp2;refine bodyPost_ret (v:=.tuple #[.agg #[.int .i64 6,.int .i64 0,.int .u64 0,.int .u64 0,.int .u64 0,.bool false,.int .i64 0,.int .u64 0,.bool false,.int .i64 0],.bool true]) (by simp[results,Tryz.results59,go_sem]) rfl ⟨?_,?_⟩
 ·first|rfl|simp
 ·repeat' (first|exact Only.refl _ _|(with_reducible first|refine Only.setCell ?_ ?_ _|refine Only.alloc ?_ _|refine Only.drew ?_))
  all_goals (try exact .inr (Nat.le_refl _))
theorem at_next7 (ω w:World)(F:HP)(b:Nat)(s:PSt)(x:PAt)(h:Sat ω w (atH b s x*F))(hst:x.state=7)(hsm:x.stamp≤4611686018427387904):
  Calls Tryz.prog 59 #[.pointer (some ⟨b,0,none⟩)] w (AtNext w x.next):=by
 have HE:Hid (x.next=(POp.at' 9 x.me,true)):=h_ (by unfold PAt.next;rw[hst];rfl)
 obtain⟨D,hx⟩:=atH_of h;have hb:=atX_blk hx;have c14:w.cell? ⟨b,14,none⟩=some (.int .i64 7):=by have:=hb.cell 14;rw[this];show some (Value.int .i64 x.state)=_;rw[hst];rfl
 have c0:=hb.c 0;have c21:=hb.c 21;have lt:=hb.lt;have lt1:b<w.heap.size+1:=by omega
 have hw:IntKind.u64.wrap ((x.stamp:Int)+1)=((x.stamp+1:Nat):Int):=by rw[IntKind.wrap_u64];omega
 rw[HE.o];unfold AtNext opA;try unfold POp.at'
 unfold POp.zero PLk.zero;simp only;generalize x.me=me at *
 generalize x.stamp=stamp at *
 clear h hx hb hst HE;go_enter Tryz.func59,Tryz.ntmps59;go_wp2;refine bodyPost_ret (v:=.tuple #[.agg #[.int .i64 9,.int .i64 me,.int .u64 0,.int .u64 0,.int .u64 0,.bool false,.int .i64 0,.int .u64 0,.bool false,.int .i64 0],.bool true]) (by simp[results,Tryz.results59,go_sem]) rfl ⟨?_,?_⟩
 ·first|rfl|simp
 ·repeat' (first|exact Only.refl _ _|(with_reducible first|refine Only.setCell ?_ ?_ _|refine Only.alloc ?_ _|refine Only.drew ?_))
  all_goals (try exact .inr (Nat.le_refl _))
theorem at_next8 (ω w:World)(F:HP)(b:Nat)(s:PSt)(x:PAt)(h:Sat ω w (atH b s x*F))(hst:x.state=8)(hsm:x.stamp≤4611686018427387904):
  Calls Tryz.prog 59 #[.pointer (some ⟨b,0,none⟩)] w (AtNext w x.next):=by
 have HE:Hid (x.next=(POp.zero,false)):=h_ (by unfold PAt.next;rw[hst];rfl)
 obtain⟨D,hx⟩:=atH_of h;have hb:=atX_blk hx;have c14:w.cell? ⟨b,14,none⟩=some (.int .i64 8):=by have:=hb.cell 14;rw[this];show some (Value.int .i64 x.state)=_;rw[hst];rfl
 have c0:=hb.c 0;have c21:=hb.c 21;have lt:=hb.lt;have lt1:b<w.heap.size+1:=by omega
 have hw:IntKind.u64.wrap ((x.stamp:Int)+1)=((x.stamp+1:Nat):Int):=by rw[IntKind.wrap_u64];omega
 rw[HE.o];unfold AtNext opA;try unfold POp.at'
 unfold POp.zero PLk.zero;simp only;generalize x.me=me at *
 generalize x.stamp=stamp at *
 clear h hx hb hst HE;go_enter Tryz.func59,Tryz.ntmps59;go_wp2;refine bodyPost_ret (v:=.tuple #[.agg #[.int .i64 0,.int .i64 0,.int .u64 0,.int .u64 0,.int .u64 0,.bool false,.int .i64 0,.int .u64 0,.bool false,.int .i64 0],.bool false]) (by simp[results,Tryz.results59,go_sem]) rfl ⟨?_,?_⟩
 ·first|rfl|simp
 ·repeat' (first|exact Only.refl _ _|(with_reducible first|refine Only.setCell ?_ ?_ _|refine Only.alloc ?_ _|refine Only.drew ?_))
  all_goals (try exact .inr (Nat.le_refl _))
theorem at_next2 (ω w:World)(F:HP)(b:Nat)(s:PSt)(x:PAt)(h:Sat ω w (atH b s x*F))(hst:x.state=2)(hsm:x.stamp≤4611686018427387904):
  Calls Tryz.prog 59 #[.pointer (some ⟨b,0,none⟩)] w (AtNext w x.next):=by
 have HE:Hid (x.next=({ POp.at' 9 x.me with word:=x.stamp+1 },true)):=h_ (by unfold PAt.next;rw[hst];rfl)
 obtain⟨D,hx⟩:=atH_of h;have hb:=atX_blk hx;have c14:w.cell? ⟨b,14,none⟩=some (.int .i64 2):=by have:=hb.cell 14;rw[this];show some (Value.int .i64 x.state)=_;rw[hst];rfl
 have c0:=hb.c 0;have c21:=hb.c 21;have lt:=hb.lt;have lt1:b<w.heap.size+1:=by omega
 have hw:IntKind.u64.wrap ((x.stamp:Int)+1)=((x.stamp+1:Nat):Int):=by rw[IntKind.wrap_u64];omega
 rw[HE.o];unfold AtNext opA;try unfold POp.at'
 unfold POp.zero PLk.zero;simp only;generalize x.me=me at *
 generalize x.stamp=stamp at *
 clear h hx hb hst HE;go_enter Tryz.func59,Tryz.ntmps59;go_wp2;refine rT 10 ?_;simp only[sD,sE,sF,sG];repeat still_step
 refine wpStill_nil ?_;go_wp2;refine bodyPost_ret (v:=.tuple #[.agg #[.int .i64 9,.int .i64 me,.int .u64 0,.int .u64 ((stamp:Int)+1),.int .u64 0,.bool false,.int .i64 0,.int .u64 0,.bool false,.int .i64 0],.bool true]) (by simp[results,Tryz.results59,go_sem]) rfl ⟨?_,?_⟩
 ·first|rfl|simp
 ·repeat' (first|exact Only.refl _ _|(with_reducible first|refine Only.setCell ?_ ?_ _|refine Only.alloc ?_ _|refine Only.drew ?_))
  all_goals (try exact .inr (Nat.le_refl _))
end
section
variable (ω w : World) (F : HP)
theorem fin59 {w W:World}{p:Nat}{ok:Bool}{kind at_ old word wv wo lv lo:Nat}{wh lh:Bool}{tmps:Array Value}(h2:tmps.getD 2 undef=.pointer (some ⟨p,0,none⟩))(h3:tmps.getD 3 undef=.bool ok){cs:Array Value}(hb:Blk W p 95 cs)(hcs:cs=#[.int .i64 kind,.int .i64 at_,.int .u64 old,.int .u64 word,.int .u64 wv,.bool wh,.int .i64 wo,.int .u64 lv,.bool lh,.int .i64 lo])(ho:Only Nob w W):
  bodyPost Tryz.prog Tryz.f59 (fun e w'=>e=.returned (.tuple #[.agg #[.int .i64 kind,.int .i64 at_,.int .u64 old,.int .u64 word,.int .u64 wv,.bool wh,.int .i64 wo,.int .u64 lv,.bool lh,.int .i64 lo],.bool ok])∧Only Nob w w') Exit.ret { tmps:=tmps,defers:=[] } W:=by
 subst hcs;have kl:=hb.lt;have m0:=hb.c 0;have m1:=hb.c 1;have m2:=hb.c 2;have m3:=hb.c 3;have m4:=hb.c 4;have m5:=hb.c 5;have m6:=hb.c 6;have m7:=hb.c 7;have m8:=hb.c 8;have m9:=hb.c 9;refine bodyPost_ret (v:=.tuple #[.agg #[.int .i64 kind,.int .i64 at_,.int .u64 old,.int .u64 word,.int .u64 wv,.bool wh,.int .i64 wo,.int .u64 lv,.bool lh,.int .i64 lo],.bool ok]) ?_ rfl ⟨rfl,ho⟩;have h2':tmps[2]?.getD undef=.pointer (some ⟨p,0,none⟩):=by simpa using h2
 have h3':tmps[3]?.getD undef=.bool ok:=by simpa using h3
 simp[results,Tryz.results59,go_sem,h2',h3',m0,m1,m2,m3,m4,m5,m6,m7,m8,m9]
theorem at_nextF (b:Nat)(s:PSt)(x:PAt)(h:Sat ω w (atH b s x*F))(k:Nat)(hk:k=3∨k=4∨k=5∨k=6)(hst:x.state=k)(f:PFe)(hi:x.inner=.fetch f):
  Calls Tryz.prog 59 #[.pointer (some ⟨b,0,none⟩)] w (AtNext w x.next):=by
 have HE:Hid (x.next=f.next):=h_ (by unfold PAt.next;rw[hst];rcases hk with rfl|rfl|rfl|rfl<;>(rw[hi];rfl))
 obtain⟨D,hx⟩:=atH_of h;have hb:=atX_blk hx;obtain⟨G,h1,_⟩:=at_inner hx;rw[hi] at h1;obtain⟨g,e1,e2,h2,_⟩:=inH_fe h1;have c14:w.cell? ⟨b,14,none⟩=some (.int .i64 k):=by have:=hb.cell 14;rw[this];show some (Value.int .i64 x.state)=_;rw[hst]
 have c15:w.cell? ⟨b,15,none⟩=some (.iface 194 (.pointer (some ⟨g,0,none⟩))):=by have:=hb.cell 15;rw[this];show some D.inn=_;rw[e1]
 have lt:=hb.lt;have lt1:b<w.heap.size+1:=by omega
 have HN:Hid (∀o,Calls Tryz.prog 388 #[.pointer (some ⟨g,0,none⟩)] (w.alloc o) fun e w'=>e=.returned (.tuple #[opA f.next.1,.bool f.next.2])∧Only Nob (w.alloc o) w'):=h_ (fun o=>fe_next _ g f ((h2.junk o).blk))
 have HO:Hid (Only Nob w (w.alloc (.cells #[.int .i64 0,.int .i64 0,.int .u64 0,.int .u64 0,.int .u64 0,.bool false,.int .i64 0,.int .u64 0,.bool false,.int .i64 0] 95))):=h_ ((Only.refl _ _).alloc _);have hm:=me_feNext;rw[HE.o];unfold AtNext;generalize f.next=r at *
 obtain⟨⟨kind,at_,old,word,⟨wv,wh,wo⟩,⟨lv,lh,lo⟩⟩,ok⟩:=r;have n0:((k:Int)==0)=false:=by simp;omega
 have n1:((k:Int)==1)=false:=by simp;omega
 have n2:((k:Int)==2)=false:=by simp;omega
 have n7:((k:Int)==7)=false:=by simp;omega
 have n8:((k:Int)==8)=false:=by simp;omega
 unfold opA at HN ⊢;simp only at HN ⊢;have HB0:Hid (Blk (w.alloc (.cells #[.int .i64 0,.int .i64 0,.int .u64 0,.int .u64 0,.int .u64 0,.bool false,.int .i64 0,.int .u64 0,.bool false,.int .i64 0] 95)) w.heap.size 95 #[.int .i64 0,.int .i64 0,.int .u64 0,.int .u64 0,.int .u64 0,.bool false,.int .i64 0,.int .u64 0,.bool false,.int .i64 0]):=h_ (Blk.new _ _ _);clear h hx hb h1 h2 e1 e2 hi hst hk HE;go_enter Tryz.func59,Tryz.ntmps59;go_wp2_with (go_at_call 388;refine(HN.o _).mono ?_;rintro e w1 ⟨rfl,ho⟩;have kb:=HB0.o.only ho (fun e=>e);have kl:=kb.lt;have kf:=kb.frozen;have m0:=kb.cell 0;have m1:=kb.cell 1;have m2:=kb.cell 2;have m3:=kb.cell 3;have m4:=kb.cell 4;have m5:=kb.cell 5;have m6:=kb.cell 6;have m7:=kb.cell 7;have m8:=kb.cell 8;have m9:=kb.cell 9;have HO1:=h_ (HO.o.trans ho);have KB:=h_ kb;clear ho kb)
 have KB2:=((((((((((KB.out.set_ 0 (.int .i64 kind)).set_ 1 (.int .i64 at_)).set_ 2 (.int .u64 old)).set_ 3 (.int .u64 word)).set_ 4 (.int .u64 wv)).set_ 5 (.bool wh)).set_ 6 (.int .i64 wo)).set_ 7 (.int .u64 lv)).set_ 8 (.bool lh)).set_ 9 (.int .i64 lo));have HO2:=((((((((((HO1.o.setCell (p:=⟨w.heap.size,0,none⟩) (.inr (Nat.le_refl _)) (.int .i64 kind)).setCell (p:=⟨w.heap.size,1,none⟩) (.inr (Nat.le_refl _)) (.int .i64 at_)).setCell (p:=⟨w.heap.size,2,none⟩) (.inr (Nat.le_refl _)) (.int .u64 old)).setCell (p:=⟨w.heap.size,3,none⟩) (.inr (Nat.le_refl _)) (.int .u64 word)).setCell (p:=⟨w.heap.size,4,none⟩) (.inr (Nat.le_refl _)) (.int .u64 wv)).setCell (p:=⟨w.heap.size,5,none⟩) (.inr (Nat.le_refl _)) (.bool wh)).setCell (p:=⟨w.heap.size,6,none⟩) (.inr (Nat.le_refl _)) (.int .i64 wo)).setCell (p:=⟨w.heap.size,7,none⟩) (.inr (Nat.le_refl _)) (.int .u64 lv)).setCell (p:=⟨w.heap.size,8,none⟩) (.inr (Nat.le_refl _)) (.bool lh)).setCell (p:=⟨w.heap.size,9,none⟩) (.inr (Nat.le_refl _)) (.int .i64 lo));refine fin59 ?_ ?_ KB2 ?_ HO2
 ·simp
 ·simp
 ·simp
theorem at_nextE (b:Nat)(s:PSt)(x:PAt)(h:Sat ω w (atH b s x*F))(k:Nat)(hk:k=3∨k=4∨k=5∨k=6)(hst:x.state=k)(f:PEx)(hi:x.inner=.extend f)(hl:f.seen.length≤1000)(hok:f.ok):
  Calls Tryz.prog 59 #[.pointer (some ⟨b,0,none⟩)] w (AtNext w x.next):=by
 have HE:Hid (x.next=f.next):=h_ (by unfold PAt.next;rw[hst];rcases hk with rfl|rfl|rfl|rfl<;>(rw[hi];rfl))
 obtain⟨D,hx⟩:=atH_of h;have hb:=atX_blk hx;obtain⟨G,h1,_⟩:=at_inner hx;rw[hi] at h1;obtain⟨g,e1,e2,h2,_⟩:=inH_ex h1;have c14:w.cell? ⟨b,14,none⟩=some (.int .i64 k):=by have:=hb.cell 14;rw[this];show some (Value.int .i64 x.state)=_;rw[hst]
 have c15:w.cell? ⟨b,15,none⟩=some (.iface 195 (.pointer (some ⟨g,0,none⟩))):=by have:=hb.cell 15;rw[this];show some D.inn=_;rw[e1]
 have lt:=hb.lt;have lt1:b<w.heap.size+1:=by omega
 have HN:Hid (∀o,Calls Tryz.prog 396 #[.pointer (some ⟨g,0,none⟩)] (w.alloc o) fun e w'=>e=.returned (.tuple #[opA f.next.1,.bool f.next.2])∧Only Nob (w.alloc o) w'):=h_ (fun o=>ex_next ω _ _ g f (h2.junk o) hl hok)
 have HO:Hid (Only Nob w (w.alloc (.cells #[.int .i64 0,.int .i64 0,.int .u64 0,.int .u64 0,.int .u64 0,.bool false,.int .i64 0,.int .u64 0,.bool false,.int .i64 0] 95))):=h_ ((Only.refl _ _).alloc _);have hm:=me_exNext;rw[HE.o];unfold AtNext;generalize f.next=r at *
 obtain⟨⟨kind,at_,old,word,⟨wv,wh,wo⟩,⟨lv,lh,lo⟩⟩,ok⟩:=r;have n0:((k:Int)==0)=false:=by simp;omega
 have n1:((k:Int)==1)=false:=by simp;omega
 have n2:((k:Int)==2)=false:=by simp;omega
 have n7:((k:Int)==7)=false:=by simp;omega
 have n8:((k:Int)==8)=false:=by simp;omega
 unfold opA at HN ⊢;simp only at HN ⊢;have HB0:Hid (Blk (w.alloc (.cells #[.int .i64 0,.int .i64 0,.int .u64 0,.int .u64 0,.int .u64 0,.bool false,.int .i64 0,.int .u64 0,.bool false,.int .i64 0] 95)) w.heap.size 95 #[.int .i64 0,.int .i64 0,.int .u64 0,.int .u64 0,.int .u64 0,.bool false,.int .i64 0,.int .u64 0,.bool false,.int .i64 0]):=h_ (Blk.new _ _ _);clear h hx hb h1 h2 e1 e2 hi hst hk HE hl hok;go_enter Tryz.func59,Tryz.ntmps59;go_wp2_with (go_at_call 396;refine(HN.o _).mono ?_;rintro e w1 ⟨rfl,ho⟩;have kb:=HB0.o.only ho (fun e=>e);have kl:=kb.lt;have kf:=kb.frozen;have m0:=kb.cell 0;have m1:=kb.cell 1;have m2:=kb.cell 2;have m3:=kb.cell 3;have m4:=kb.cell 4;have m5:=kb.cell 5;have m6:=kb.cell 6;have m7:=kb.cell 7;have m8:=kb.cell 8;have m9:=kb.cell 9;have HO1:=h_ (HO.o.trans ho);have KB:=h_ kb;clear ho kb)
 have KB2:=((((((((((KB.out.set_ 0 (.int .i64 kind)).set_ 1 (.int .i64 at_)).set_ 2 (.int .u64 old)).set_ 3 (.int .u64 word)).set_ 4 (.int .u64 wv)).set_ 5 (.bool wh)).set_ 6 (.int .i64 wo)).set_ 7 (.int .u64 lv)).set_ 8 (.bool lh)).set_ 9 (.int .i64 lo));have HO2:=((((((((((HO1.o.setCell (p:=⟨w.heap.size,0,none⟩) (.inr (Nat.le_refl _)) (.int .i64 kind)).setCell (p:=⟨w.heap.size,1,none⟩) (.inr (Nat.le_refl _)) (.int .i64 at_)).setCell (p:=⟨w.heap.size,2,none⟩) (.inr (Nat.le_refl _)) (.int .u64 old)).setCell (p:=⟨w.heap.size,3,none⟩) (.inr (Nat.le_refl _)) (.int .u64 word)).setCell (p:=⟨w.heap.size,4,none⟩) (.inr (Nat.le_refl _)) (.int .u64 wv)).setCell (p:=⟨w.heap.size,5,none⟩) (.inr (Nat.le_refl _)) (.bool wh)).setCell (p:=⟨w.heap.size,6,none⟩) (.inr (Nat.le_refl _)) (.int .i64 wo)).setCell (p:=⟨w.heap.size,7,none⟩) (.inr (Nat.le_refl _)) (.int .u64 lv)).setCell (p:=⟨w.heap.size,8,none⟩) (.inr (Nat.le_refl _)) (.bool lh)).setCell (p:=⟨w.heap.size,9,none⟩) (.inr (Nat.le_refl _)) (.int .i64 lo));refine fin59 ?_ ?_ KB2 ?_ HO2
 ·simp
 ·simp
 ·simp
theorem at_nextC (b:Nat)(s:PSt)(x:PAt)(h:Sat ω w (atH b s x*F))(k:Nat)(hk:k=3∨k=4∨k=5∨k=6)(hst:x.state=k)(f:PCo)(hi:x.inner=.commit f)(hc:f.set):
  Calls Tryz.prog 59 #[.pointer (some ⟨b,0,none⟩)] w (AtNext w x.next):=by
 have HE:Hid (x.next=f.next):=h_ (by unfold PAt.next;rw[hst];rcases hk with rfl|rfl|rfl|rfl<;>(rw[hi];rfl))
 obtain⟨D,hx⟩:=atH_of h;have hb:=atX_blk hx;obtain⟨G,h1,_⟩:=at_inner hx;rw[hi] at h1;obtain⟨g,e1,e2,h2,_⟩:=inH_co h1;have c14:w.cell? ⟨b,14,none⟩=some (.int .i64 k):=by have:=hb.cell 14;rw[this];show some (Value.int .i64 x.state)=_;rw[hst]
 have c15:w.cell? ⟨b,15,none⟩=some (.iface 196 (.pointer (some ⟨g,0,none⟩))):=by have:=hb.cell 15;rw[this];show some D.inn=_;rw[e1]
 have lt:=hb.lt;have lt1:b<w.heap.size+1:=by omega
 have HN:Hid (∀o,Calls Tryz.prog 399 #[.pointer (some ⟨g,0,none⟩)] (w.alloc o) fun e w'=>e=.returned (.tuple #[opA f.next.1,.bool f.next.2])∧Only Nob (w.alloc o) w'):=h_ (fun o=>co_next ω _ _ g f (h2.junk o) hc.w.small hc.w.ok)
 have HO:Hid (Only Nob w (w.alloc (.cells #[.int .i64 0,.int .i64 0,.int .u64 0,.int .u64 0,.int .u64 0,.bool false,.int .i64 0,.int .u64 0,.bool false,.int .i64 0] 95))):=h_ ((Only.refl _ _).alloc _);have hm:=me_coNext;rw[HE.o];unfold AtNext;generalize f.next=r at *
 obtain⟨⟨kind,at_,old,word,⟨wv,wh,wo⟩,⟨lv,lh,lo⟩⟩,ok⟩:=r;have n0:((k:Int)==0)=false:=by simp;omega
 have n1:((k:Int)==1)=false:=by simp;omega
 have n2:((k:Int)==2)=false:=by simp;omega
 have n7:((k:Int)==7)=false:=by simp;omega
 have n8:((k:Int)==8)=false:=by simp;omega
 unfold opA at HN ⊢;simp only at HN ⊢;have HB0:Hid (Blk (w.alloc (.cells #[.int .i64 0,.int .i64 0,.int .u64 0,.int .u64 0,.int .u64 0,.bool false,.int .i64 0,.int .u64 0,.bool false,.int .i64 0] 95)) w.heap.size 95 #[.int .i64 0,.int .i64 0,.int .u64 0,.int .u64 0,.int .u64 0,.bool false,.int .i64 0,.int .u64 0,.bool false,.int .i64 0]):=h_ (Blk.new _ _ _);clear h hx hb h1 h2 e1 e2 hi hst hk HE hc;go_enter Tryz.func59,Tryz.ntmps59;go_wp2_with (go_at_call 399;refine(HN.o _).mono ?_;rintro e w1 ⟨rfl,ho⟩;have kb:=HB0.o.only ho (fun e=>e);have kl:=kb.lt;have kf:=kb.frozen;have m0:=kb.cell 0;have m1:=kb.cell 1;have m2:=kb.cell 2;have m3:=kb.cell 3;have m4:=kb.cell 4;have m5:=kb.cell 5;have m6:=kb.cell 6;have m7:=kb.cell 7;have m8:=kb.cell 8;have m9:=kb.cell 9;have HO1:=h_ (HO.o.trans ho);have KB:=h_ kb;clear ho kb)
 have KB2:=((((((((((KB.out.set_ 0 (.int .i64 kind)).set_ 1 (.int .i64 at_)).set_ 2 (.int .u64 old)).set_ 3 (.int .u64 word)).set_ 4 (.int .u64 wv)).set_ 5 (.bool wh)).set_ 6 (.int .i64 wo)).set_ 7 (.int .u64 lv)).set_ 8 (.bool lh)).set_ 9 (.int .i64 lo));have HO2:=((((((((((HO1.o.setCell (p:=⟨w.heap.size,0,none⟩) (.inr (Nat.le_refl _)) (.int .i64 kind)).setCell (p:=⟨w.heap.size,1,none⟩) (.inr (Nat.le_refl _)) (.int .i64 at_)).setCell (p:=⟨w.heap.size,2,none⟩) (.inr (Nat.le_refl _)) (.int .u64 old)).setCell (p:=⟨w.heap.size,3,none⟩) (.inr (Nat.le_refl _)) (.int .u64 word)).setCell (p:=⟨w.heap.size,4,none⟩) (.inr (Nat.le_refl _)) (.int .u64 wv)).setCell (p:=⟨w.heap.size,5,none⟩) (.inr (Nat.le_refl _)) (.bool wh)).setCell (p:=⟨w.heap.size,6,none⟩) (.inr (Nat.le_refl _)) (.int .i64 wo)).setCell (p:=⟨w.heap.size,7,none⟩) (.inr (Nat.le_refl _)) (.int .u64 lv)).setCell (p:=⟨w.heap.size,8,none⟩) (.inr (Nat.le_refl _)) (.bool lh)).setCell (p:=⟨w.heap.size,9,none⟩) (.inr (Nat.le_refl _)) (.int .i64 lo));refine fin59 ?_ ?_ KB2 ?_ HO2
 ·simp
 ·simp
 ·simp
theorem at_next (b:Nat)(s:PSt)(x:PAt)(h:Sat ω w (atH b s x*F))(hw:AtWell x):
  Calls Tryz.prog 59 #[.pointer (some ⟨b,0,none⟩)] w (AtNext w x.next):=by
 have h8:=hw.st;rcases(by omega:x.state=0∨x.state=1∨x.state=2∨x.state=3∨x.state=4∨x.state=5∨x.state=6∨x.state=7∨x.state=8) with k|k|k|k|k|k|k|k|k
 ·exact at_next0 ω w F b s x h k hw.stamp
 ·exact at_next1 ω w F b s x h k hw.stamp
 ·exact at_next2 ω w F b s x h k hw.stamp
 ·obtain⟨f,hf⟩:=hw.s3 k;exact at_nextF ω w F b s x h 3 (by omega) k f hf
 ·obtain⟨e,he,h1,h2,h3⟩:=hw.s4 (.inl k);exact at_nextE ω w F b s x h 4 (by omega) k e he (by omega) h1
 ·obtain⟨e,he,h1,h2,h3⟩:=hw.s4 (.inr k);exact at_nextE ω w F b s x h 5 (by omega) k e he (by omega) h1
 ·obtain⟨c,hc,h1⟩:=hw.s6 k;exact at_nextC ω w F b s x h 6 (by omega) k c hc h1
 ·exact at_next7 ω w F b s x h k hw.stamp
 ·exact at_next8 ω w F b s x h k hw.stamp
end
theorem ItFine.know {dep:Nat→Nat}{x:PIt}{v:PVw}(h:ItFine dep x v){p y:Nat}(hy:U64 y):ItFine dep x (v.know p y).2:=by
 obtain⟨q1,q2,q3⟩:=h.vf.know (p:=p) hy;exact⟨h.toItVal,h.code,q1,h.place,h.left,fun h0=>by rw[q2];exact h.live h0⟩
def FeS (b:Nat)(s:PSt)(me stamp:Nat)(D:AtD)(g:Nat)(w:World):Prop:=AtCf b s me stamp D w∧w.cell? ⟨b,16,none⟩=some (.pointer (some ⟨g,0,none⟩))
theorem at_fetched (ω w:World)(F:HP)(b:Nat)(s:PSt)(x:PAt)(h:Sat ω w (atH b s x*F))(f:PFe)(hi:x.inner=.fetch f)(dep:Nat→Nat)(hf:ItFine dep x.run x.v)(hfin:x.run.fin=0∨x.run.fin=2∨x.run.fin=4)(hr:x.reads.length≤16)(hs:s.fit)(hu:U64 f.word):
  Calls Tryz.prog 165 #[.pointer (some ⟨b,0,none⟩)] w (Rets ω F (.tuple #[]) (atH b s (x.fetched s f))):=by
 have hn:∀c,x.inner≠.commit c:=by rw[hi];simp
 have hvok:=hf.vf.ok;obtain⟨D,hx⟩:=atH_of h;obtain⟨G0,k1,k2⟩:=at_inner hx;rw[hi] at k1;obtain⟨g,e1,e2,k3,k4⟩:=inH_fe k1;have hFE:∀w1 y,y.inner=.fetch f→Sat ω w1 (atX b s y D*F)→Blk w1 g 283 (feC f):=fun w1 y hy h1=>by
  obtain⟨G1,j1,_⟩:=at_inner h1;rw[hy] at j1;obtain⟨g',e1',e2',j3,_⟩:=inH_fe j1;rw[e2] at e2';injection e2' with e2'
  injection e2' with e2'
  injection e2' with e2'
  subst e2';exact j3.blk
 have hSS:∀w1 (y:PAt),y.me=x.me→y.stamp=x.stamp→Sat ω w1 (atX b s y D*F)→FeS b s x.me x.stamp D g w1:=fun w1 y h1 h2 h3=>by
  have h4:=atCf_of (h3.emp_);rw[h1,h2] at h4;refine⟨h4,?_⟩
  have:=(atX_blk h3).cell 16
  rw[this];show some D.fp=_
  rw[e2]
 have hdr:∀w1,FeS b s x.me x.stamp D g w1→FeS b s x.me x.stamp D g w1.drew:=fun w1 h1=>⟨h1.1.drewN 1,h1.2⟩
 have HEND:Hid (Calls Tryz.prog 194 #[.pointer (some ⟨g,0,none⟩)] w fun e w'=>e=.returned (.int .i64 f.rule.fin)∧w'=w):=h_ (fe_endOf w g f (hFE w x hi hx))
 have c16:w.cell? ⟨b,16,none⟩=some (.pointer (some ⟨g,0,none⟩)):=(hSS w x rfl rfl hx).2;have lt:=(hSS w x rfl rfl hx).1.lt;by_cases h6:f.rule.fin=6
 ·have hW:x.fetched s f=x.later s 4:=by unfold PAt.fetched;rw[if_pos h6]
  rw[hW];have HL:=h_ (at_later ω w F b s x h 4 hn (by omega))
  rw[h6] at HEND;clear h hx k1 k2 k3 k4 e1 e2 hFE hSS hdr hi hf hfin hr hs hu hn hvok h6 hW;go_enter Tryz.func165,Tryz.ntmps165;go_wp2_with (first
   |(go_at_call 194;refine(HEND.o).mono ?_;rintro e w1 ⟨rfl,rfl⟩)
   |(go_at_call 131;refine(HL.o).mono ?_;rintro e w1 ⟨rfl,hs⟩;have HZ:=h_ hs;clear hs))
  exact bodyPost_end (results_none rfl _ _ _) rfl ⟨rfl,HZ.o⟩
 ·obtain⟨st,hst⟩:∃st,(if f.rule.fin=2 then f.stripe else 0)=st:=⟨_,rfl⟩
  obtain⟨ver,hver⟩:∃ver,(if f.rule.fin=2 then f.lock.ver else 0)=ver:=⟨_,rfl⟩
  obtain⟨wd,hwd⟩:∃wd,(if f.rule.fin=2 then f.word else 0)=wd:=⟨_,rfl⟩
  obtain⟨⟨ee,l⟩,hrd⟩:∃r,rdAdd x.reads (st,ver)=r:=⟨_,rfl⟩;have hwu:U64 wd:=by
   rw[←hwd];split
   ·exact hu
   ·exact U64.zero
  have hseen:(if f.rule.fin=2 then(f.stripe,f.lock.ver) else(0,0))=(st,ver):=by rw[←hst,←hver];split<;>rfl
  have hl16:l.length≤1000:=by
   have:l=(rdAdd x.reads (st,ver)).2:=by rw[hrd]
   rw[this];unfold rdAdd;split
   ·simp only;omega
   ·split
    ·simp only;omega
    ·split
     ·simp only;omega
     ·simp;omega
  have hW:x.fetched s f=if ee=0 then PAt.work { x with reads:=l,v:=(x.v.know x.v.need wd).2 } s else if ee=14 then PAt.out { x with reads:=l } 5 0 (-1) else PAt.out { x with reads:=l } 4 ee (-1):=by
   unfold PAt.fetched;rw[if_neg h6,hseen,hwd];simp only[hrd]
  have d6:((f.rule.fin:Int)==6)=false:=by simp;omega
  have HSEEN:Hid (∀q,Calls Tryz.prog 196 #[.pointer (some ⟨g,0,none⟩)] (w.drewN q) fun e w'=>e=.returned (.agg #[.int .i64 st,.int .u64 ver])∧Sat ω w' (atX b s x D*F)):=h_ (fun q=>by
   refine(fe_seenOf (w.drewN q) g f (hFE _ x hi (hx.drewN q))).mono ?_;rintro e w1 ⟨rfl,ho⟩;rw[hst,hver];exact⟨rfl,(hx.drewN q).nob ho⟩)
  have HADD:Hid (∀w1,Sat ω w1 (atX b s x D*F)→Calls Tryz.prog 195 #[.pointer (some ⟨D.db,0,none⟩),.agg #[.int .i64 st,.int .u64 ver]] w1 fun e w'=>e=.returned (.int .i64 ee)∧Sat ω w' (atX b s { x with reads:=l } D*F)):=h_ (fun w1 h1=>by
   obtain⟨G,h2,h3⟩:=at_rd h1;refine(rd_add ω w1 G D.db x.reads h2 hr st ver).mono ?_;rintro e w2 ⟨rfl,h4⟩;rw[hrd] at h4 ⊢;exact⟨rfl,(h3 w2 emp l h4.emp_).perm (emp_star _)⟩)
  have HS0:FeS b s x.me x.stamp D g w.drew:=hdr w (hSS w x rfl rfl hx);have HSX:Hid (∀w1,Sat ω w1 (atX b s x D*F)→FeS b s x.me x.stamp D g w1):=h_ (fun w1 h1=>hSS w1 x rfl rfl h1)
  have HS1:Hid (∀w1,Sat ω w1 (atX b s { x with reads:=l } D*F)→FeS b s x.me x.stamp D g w1):=h_ (fun w1 h1=>hSS w1 { x with reads:=l } rfl rfl h1)
  by_cases h0:ee=0
  ·subst h0;rw[if_pos rfl] at hW;have HNEED:Hid (∀w1,Sat ω w1 (atX b s { x with reads:=l } D*F)→Calls Tryz.prog 130 #[.pointer (some ⟨D.vb,0,none⟩)] w1 fun e w'=>e=.returned (.int .i64 x.v.need)∧w'=w1):=h_ (fun w1 h1=>by
    obtain⟨G,h2,_⟩:=at_vw h1;exact vw_need ω w1 G D.vb x.v h2)
   have HWORD:Hid (∀w1,Sat ω w1 (atX b s { x with reads:=l } D*F)→Calls Tryz.prog 198 #[.pointer (some ⟨g,0,none⟩)] w1 fun e w'=>e=.returned (.int .u64 wd)∧w'=w1):=h_ (fun w1 h1=>by
    have:=fe_wordOf w1 g f (hFE w1 { x with reads:=l } hi h1)
    rw[hwd] at this;exact this)
   have HKNOW:Hid (∀w1,Sat ω w1 (atX b s { x with reads:=l } D*F)→Calls Tryz.prog 197 #[.pointer (some ⟨D.vb,0,none⟩),.int .i64 x.v.need,.int .u64 wd] w1 fun e w'=>e=.returned (.int .i64 ((x.v.know x.v.need wd).1:Int))∧Sat ω w' (atX b s { x with reads:=l,v:=(x.v.know x.v.need wd).2 } D*F)):=h_ (fun w1 h1=>by
    obtain⟨G,h2,h3⟩:=at_vw h1;refine(vw_know ω w1 G D.vb x.v h2 hvok x.v.need wd).mono ?_;rintro e w2 ⟨rfl,h4⟩;exact⟨rfl,(h3 w2 emp _ h4.emp_).perm (emp_star _)⟩)
   have HWORK:Hid (∀w1,Sat ω w1 (atX b s { x with reads:=l,v:=(x.v.know x.v.need wd).2 } D*F)→FeS b s x.me x.stamp D g w1∧Calls Tryz.prog 93 #[.pointer (some ⟨b,0,none⟩)] w1 (Rets ω F (.tuple #[]) (atH b s (x.fetched s f)))):=h_ (fun w1 h1=>by
    refine⟨hSS w1 { x with reads:=l,v:=(x.v.know x.v.need wd).2 } rfl rfl h1,?_⟩
    rw[hW];exact at_work ω w1 F b s _ (atH_to h1) dep (hf.know hwu) hfin hn hl16 hs)
   have HDR:=h_ hdr;generalize ({ x with reads:=l,v:=(x.v.know x.v.need wd).2 }:PAt)=X2 at *
   generalize ({ x with reads:=l }:PAt)=X1 at *
   generalize x.v.know x.v.need wd=kn at *
   generalize x.v.need=need at *
   generalize x.me=me at *
   generalize x.stamp=stamp at *
   generalize f.rule.fin=ff at *
   clear h hx k1 k2 k3 k4 e1 e2 hFE hSS hdr hi hf hfin hr hs hu hn hvok h6 hW hst hver hwd hrd hwu hseen hl16;go_enter Tryz.func165,Tryz.ntmps165;go_wp2_with (go_at_call 194;refine(HEND.o).mono ?_;rintro e w1 ⟨rfl,rfl⟩);refine wp_region_noPanic ?_;refine gH (FeS b s me stamp D g) HS0 fun hh0=>?_
   refine tH 0 ?_ rfl ?_ (tH 1 ?_ rfl ?_ (tH 2 ?_ rfl ?_ (tH 3 ?_ rfl ?_ (tH 4 ?_ rfl ?_ (tH 5 ?_ rfl ?_ (tH 6 ?_ rfl ?_ (tH 7 ?_ rfl ?_ ?_)))))));all_goals (try (
    intro w hSw;have d13:=hSw.1.c13;have d12:=hSw.1.c12;have d16:=hSw.2;have dl:=hSw.1.lt;try simp only[Act.put,sA,sB,sC]
    go_simp<;>(try with_reducible rfl)))
   try simp only[Act.put,sA,sB,sC]
   refine oH 8 rfl fun K hK=>?_
   go_simp;go_at_call 196;refine(HSEEN.o _).mono ?_;rintro e wA ⟨rfl,hs⟩;have HX:=h_ hs;clear hs;first|(refine hK.q ?_ fun hh1=>?_)|(go_wp2_with fail;refine hK.q ?_ fun hh1=>?_)
   ·exact HSX.o _ HX.o
   clear hK K hh0;try simp only[Act.put,sA,sB,sC]
   refine oH 9 rfl fun K hK=>?_
   go_simp;go_at_call 195;refine(HADD.o _ HX.o).mono ?_;rintro e wB ⟨rfl,hs⟩;have HY:=h_ hs;clear hs;first|(refine hK.q ?_ fun hh2=>?_)|(go_wp2_with fail;refine hK.q ?_ fun hh2=>?_)
   ·exact HS1.o _ HY.o
   clear hK K hh1;try simp only[Act.put,sA,sB,sC]
   refine tH 10 ?_ rfl ?_ ?_;all_goals (try (
    intro w hSw;have d13:=hSw.1.c13;have d12:=hSw.1.c12;have d16:=hSw.2;have dl:=hSw.1.lt;go_simp<;>(try with_reducible rfl)))
   try simp only[Act.put,sA,sB,sC]
   refine dH (NoPanic.normal ?_);go_wp2;refine wp_region_noPanic ?_;refine wp_region_held_drew (S:=FeS b s me stamp D g) (by kernel_rfl) (HDR.o _ (HS1.o _ HY.o)) (fun hh0=>?_)
   refine tH 0 ?_ rfl ?_ (tH 1 ?_ rfl ?_ (tH 2 ?_ rfl ?_ (tH 3 ?_ rfl ?_ (tH 4 ?_ rfl ?_ (tH 5 ?_ rfl ?_ (tH 6 ?_ rfl ?_ (tH 7 ?_ rfl ?_ (tH 9 ?_ rfl ?_ (tH 10 ?_ rfl ?_ (tH 11 ?_ rfl ?_ (tH 12 ?_ rfl ?_ ?_)))))))))));all_goals (try (
    intro w hSw;have d13:=hSw.1.c13;have d12:=hSw.1.c12;have d16:=hSw.2;have dl:=hSw.1.lt;try simp only[Act.put,sA,sB,sC]
    go_simp<;>(try with_reducible rfl)))
   try simp only[Act.put,sA,sB,sC]
   refine oH 8 rfl fun K hK=>?_
   go_simp;go_at_call 130;refine(HNEED.o _ (HY.o.drewN _)).mono ?_;rintro e wC ⟨rfl,rfl⟩;first|(refine hK.q ?_ fun hh1=>?_)|(go_wp2_with fail;refine hK.q ?_ fun hh1=>?_)
   ·exact HDR.o _ (HS1.o _ HY.o)
   clear hK K hh0;try simp only[Act.put,sA,sB,sC]
   refine oH 13 rfl fun K hK=>?_
   go_simp;go_at_call 198;refine(HWORD.o _ (HY.o.drewN _)).mono ?_;rintro e wC ⟨rfl,rfl⟩;first|(refine hK.q ?_ fun hh2=>?_)|(go_wp2_with fail;refine hK.q ?_ fun hh2=>?_)
   ·exact HDR.o _ (HS1.o _ HY.o)
   clear hK K hh1;try simp only[Act.put,sA,sB,sC]
   refine oH 14 rfl fun K hK=>?_
   go_simp;go_at_call 197;refine(HKNOW.o _ (HY.o.drewN _)).mono ?_;rintro e wC ⟨rfl,hs⟩;have hq:=HWORK.o _ hs;have HQ1:=h_ hq.1;have HQ2:=h_ hq.2;clear hs hq;first|(refine hK.q ?_ fun hh3=>?_)|(go_wp2_with fail;refine hK.q ?_ fun hh3=>?_)
   ·exact HQ1.o
   clear hK K hh2;try simp only[Act.put,sA,sB,sC]
   refine dH (NoPanic.normal ?_);go_wp2_with (go_at_call 93;refine(HQ2.o).mono ?_;rintro e w5 ⟨rfl,hs⟩;have HZ:=h_ hs;clear hs);exact bodyPost_end (results_none rfl _ _ _) rfl ⟨rfl,HZ.o⟩
  ·rw[if_neg h0] at hW;have d0:((ee:Int)==0)=false:=by simp;omega
   by_cases h14:ee=14
   ·subst h14;rw[if_pos rfl] at hW;have HOUT:Hid (∀w1,Sat ω w1 (atX b s { x with reads:=l } D*F)→Calls Tryz.prog 92 #[.pointer (some ⟨b,0,none⟩),.int .i64 5,.int .i64 0,.int .i64 (-1)] w1 (Rets ω F (.tuple #[]) (atH b s (x.fetched s f)))):=h_ (fun w1 h1=>by
     rw[hW];exact at_out ω w1 F b s _ (atH_to h1) 5 0 (-1))
    generalize ({ x with reads:=l }:PAt)=X1 at *
    generalize x.me=me at *
    generalize x.stamp=stamp at *
    generalize f.rule.fin=ff at *
    clear h hx k1 k2 k3 k4 e1 e2 hFE hSS hdr hi hf hfin hr hs hu hn hvok h6 hW hst hver hwd hrd hwu hseen hl16;go_enter Tryz.func165,Tryz.ntmps165;go_wp2_with (go_at_call 194;refine(HEND.o).mono ?_;rintro e w1 ⟨rfl,rfl⟩);refine wp_region_noPanic ?_;refine gH (FeS b s me stamp D g) HS0 fun hh0=>?_
    refine tH 0 ?_ rfl ?_ (tH 1 ?_ rfl ?_ (tH 2 ?_ rfl ?_ (tH 3 ?_ rfl ?_ (tH 4 ?_ rfl ?_ (tH 5 ?_ rfl ?_ (tH 6 ?_ rfl ?_ (tH 7 ?_ rfl ?_ ?_)))))));all_goals (try (
     intro w hSw;have d13:=hSw.1.c13;have d12:=hSw.1.c12;have d16:=hSw.2;have dl:=hSw.1.lt;try simp only[Act.put,sA,sB,sC]
     go_simp<;>(try with_reducible rfl)))
    try simp only[Act.put,sA,sB,sC]
    refine oH 8 rfl fun K hK=>?_
    go_simp;go_at_call 196;refine(HSEEN.o _).mono ?_;rintro e wA ⟨rfl,hs⟩;have HX:=h_ hs;clear hs;first|(refine hK.q ?_ fun hh1=>?_)|(go_wp2_with fail;refine hK.q ?_ fun hh1=>?_)
    ·exact HSX.o _ HX.o
    clear hK K hh0;try simp only[Act.put,sA,sB,sC]
    refine oH 9 rfl fun K hK=>?_
    go_simp;go_at_call 195;refine(HADD.o _ HX.o).mono ?_;rintro e wB ⟨rfl,hs⟩;have HY:=h_ hs;clear hs;first|(refine hK.q ?_ fun hh2=>?_)|(go_wp2_with fail;refine hK.q ?_ fun hh2=>?_)
    ·exact HS1.o _ HY.o
    clear hK K hh1;try simp only[Act.put,sA,sB,sC]
    refine tH 10 ?_ rfl ?_ ?_;all_goals (try (
     intro w hSw;have d13:=hSw.1.c13;have d12:=hSw.1.c12;have d16:=hSw.2;have dl:=hSw.1.lt;go_simp<;>(try with_reducible rfl)))
    try simp only[Act.put,sA,sB,sC]
    refine dH (NoPanic.normal ?_);go_wp2_with (go_at_call 92;refine(HOUT.o _ HY.o).mono ?_;rintro e w5 ⟨rfl,hs⟩;have HZ:=h_ hs;clear hs);exact bodyPost_end (results_none rfl _ _ _) rfl ⟨rfl,HZ.o⟩
   ·rw[if_neg h14] at hW;have d14:((ee:Int)==14)=false:=by simp;omega
    have HOUT:Hid (∀w1,Sat ω w1 (atX b s { x with reads:=l } D*F)→Calls Tryz.prog 92 #[.pointer (some ⟨b,0,none⟩),.int .i64 4,.int .i64 ee,.int .i64 (-1)] w1 (Rets ω F (.tuple #[]) (atH b s (x.fetched s f)))):=h_ (fun w1 h1=>by
     rw[hW];exact at_out ω w1 F b s _ (atH_to h1) 4 ee (-1))
    generalize ({ x with reads:=l }:PAt)=X1 at *
    generalize x.me=me at *
    generalize x.stamp=stamp at *
    generalize f.rule.fin=ff at *
    clear h hx k1 k2 k3 k4 e1 e2 hFE hSS hdr hi hf hfin hr hs hu hn hvok h6 hW hst hver hwd hrd hwu hseen hl16 h0 h14;go_enter Tryz.func165,Tryz.ntmps165;go_wp2_with (go_at_call 194;refine(HEND.o).mono ?_;rintro e w1 ⟨rfl,rfl⟩);refine wp_region_noPanic ?_;refine gH (FeS b s me stamp D g) HS0 fun hh0=>?_
    refine tH 0 ?_ rfl ?_ (tH 1 ?_ rfl ?_ (tH 2 ?_ rfl ?_ (tH 3 ?_ rfl ?_ (tH 4 ?_ rfl ?_ (tH 5 ?_ rfl ?_ (tH 6 ?_ rfl ?_ (tH 7 ?_ rfl ?_ ?_)))))));all_goals (try (
     intro w hSw;have d13:=hSw.1.c13;have d12:=hSw.1.c12;have d16:=hSw.2;have dl:=hSw.1.lt;try simp only[Act.put,sA,sB,sC]
     go_simp<;>(try with_reducible rfl)))
    try simp only[Act.put,sA,sB,sC]
    refine oH 8 rfl fun K hK=>?_
    go_simp;go_at_call 196;refine(HSEEN.o _).mono ?_;rintro e wA ⟨rfl,hs⟩;have HX:=h_ hs;clear hs;first|(refine hK.q ?_ fun hh1=>?_)|(go_wp2_with fail;refine hK.q ?_ fun hh1=>?_)
    ·exact HSX.o _ HX.o
    clear hK K hh0;try simp only[Act.put,sA,sB,sC]
    refine oH 9 rfl fun K hK=>?_
    go_simp;go_at_call 195;refine(HADD.o _ HX.o).mono ?_;rintro e wB ⟨rfl,hs⟩;have HY:=h_ hs;clear hs;first|(refine hK.q ?_ fun hh2=>?_)|(go_wp2_with fail;refine hK.q ?_ fun hh2=>?_)
    ·exact HS1.o _ HY.o
    clear hK K hh1;try simp only[Act.put,sA,sB,sC]
    refine tH 10 ?_ rfl ?_ ?_;all_goals (try (
     intro w hSw;have d13:=hSw.1.c13;have d12:=hSw.1.c12;have d16:=hSw.2;have dl:=hSw.1.lt;go_simp<;>(try with_reducible rfl)))
    try simp only[Act.put,sA,sB,sC]
    refine dH (NoPanic.normal ?_);go_wp2_with (go_at_call 92;refine(HOUT.o _ HY.o).mono ?_;rintro e w5 ⟨rfl,hs⟩;have HZ:=h_ hs;clear hs);exact bodyPost_end (results_none rfl _ _ _) rfl ⟨rfl,HZ.o⟩
end Go.Proofs.YtfodmgaliclhfaaGreatDoor
