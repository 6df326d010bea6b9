/- Lemmas for TopPairs; no conditions. -/
import Derived.Test.YtfodmgaliclhfaaGreatDoorThEnded
namespace Go.Proofs.YtfodmgaliclhfaaGreatDoor
set_option linter.unusedVariables false
set_option linter.unusedSimpArgs false
set_option maxRecDepth 100000
set_option maxHeartbeats 8000000
open Go.RowKit
theorem th_yield (ω w:World)(F:HP)(b:Nat)(s:PSt)(t:PTh)(D:ThD)(h:Sat ω w (thX b s t D t.job*F))(hs:s.kept)(hf:t.fit)(hc:t.conflicts≤1000000)(d:Nat)(hd:d<256)(aw av ao ae:Nat)(ah ad:Bool):
  Calls Tryz.prog 65 #[.pointer (some ⟨b,0,none⟩),.agg #[.int .u64 aw,.int .u64 av,.bool ah,.int .i64 ao,.bool ad,.int .i64 ae],.int .u8 d] w (Rets ω F (.tuple #[]) (thH b s (t.yield_ s ⟨aw,⟨av,ah,ao⟩,ad,ae⟩ d))):=by
 have HPA:Hid (∀w1,Sat ω w1 (thX b s t D t.job*F)→Calls Tryz.prog 96 #[.pointer (some ⟨b,0,none⟩),.int .u8 d] w1 (Rets ω F (.tuple #[]) (thH b s (t.pause s d)))):=h_ (fun w1 h1=>th_pause ω w1 F b s t D h1 hs hf hc d hd)
 have HS0:Hid (Sat ω (w.alloc (.cells #[.int .u64 aw,.int .u64 av,.bool ah,.int .i64 ao,.bool ad,.int .i64 ae] 100)) (thX b s t D t.job*F)):=h_ (h.junk _);have hb:=thX_blk HS0.o;have kf:=hb.frozen;have kl:=hb.lt;obtain⟨yl,hyl⟩:∃yl,t.yielding=yl:=⟨_,rfl⟩;obtain⟨si,hsi⟩:∃si,t.since=si:=⟨_,rfl⟩;have k24:(w.alloc (.cells #[.int .u64 aw,.int .u64 av,.bool ah,.int .i64 ao,.bool ad,.int .i64 ae] 100)).cell? ⟨b,24,none⟩=some (.int .u64 si):=by rw[←hsi];exact hb.cell 24
 have k25:(w.alloc (.cells #[.int .u64 aw,.int .u64 av,.bool ah,.int .i64 ao,.bool ad,.int .i64 ae] 100)).cell? ⟨b,25,none⟩=some (.bool yl):=by rw[←hyl];exact hb.cell 25
 have hb1:=thX_blk h;have kf1:=hb1.frozen;have kl1:=hb1.lt;have HST:Hid (∀w1,Sat ω w1 (thX b s t D t.job*F)→Sat ω ((w1.setCell ⟨b,25,none⟩ (.bool true)).setCell ⟨b,24,none⟩ (.int .u64 aw)) (thH b s { t with yielding:=true,since:=aw }*F)):=h_ (fun w1 h1=>thH_to (D:=D) (thX_put (t':={ t with yielding:=true,since:=aw }) (thX_put (t':={ t with yielding:=true }) h1 25 (.bool true) rfl rfl rfl rfl rfl) 24 _ rfl rfl rfl rfl rfl))
 have HYE:Hid (t.yield_ s ⟨aw,⟨av,ah,ao⟩,ad,ae⟩ d=if ae=0∧aw≠0∧(yl=false∨aw=si) then { t with yielding:=true,since:=aw } else t.pause s d):=h_ (by
  unfold PTh.yield_;simp only[hyl,hsi])
 obtain⟨y0,hy0⟩:∃y0,t.yield_ s ⟨aw,⟨av,ah,ao⟩,ad,ae⟩ d=y0:=⟨_,rfl⟩;rw[hy0] at HYE ⊢;clear h hb hb1 hs hf hc hyl hsi hy0;by_cases hae:ae=0
 ·have d1:((ae:Int)==0)=true:=by rw[hae];rfl
  by_cases haw:aw=0
  ·have d2:((aw:Int) != 0)=false:=by rw[haw];rfl
   have hy:t.pause s d=y0:=by rw[HYE.o,if_neg (fun h9=>h9.2.1 haw)]
   subst hy;clear HYE HST hae haw;generalize t.pause s d=yy at *
   go_enter Tryz.func65,Tryz.ntmps65;go_wp2;go_quiet (fail);go_wp2_with (go_at_call 96;refine(HPA.o _ (HS0.o.drewN _)).mono ?_;rintro e w1 ⟨rfl,hs⟩;have HZ:=h_ hs;clear hs);first|(go_ret;exact⟨rfl,HZ.o⟩)|exact bodyPost_end (results_none rfl _ _ _) rfl ⟨rfl,HZ.o⟩|exact bodyPost_ret (results_none rfl _ _ _) rfl ⟨rfl,HZ.o⟩
  ·have d2:((aw:Int) != 0)=true:=by simp;omega
   cases yl
   ·have hy:({ t with yielding:=true,since:=aw }:PTh)=y0:=by rw[HYE.o,if_pos ⟨hae,haw,.inl rfl⟩]
    subst hy;clear HYE HPA hae haw;generalize ({ t with yielding:=true,since:=aw }:PTh)=yy at *
    go_enter Tryz.func65,Tryz.ntmps65;go_wp2;go_quiet (fail);go_wp2;refine wp_region_any (by kernel_rfl) ?_
    try (change wpAny _ _ _ _ _ _ _ (World.drew _))
    refine tF 0 ?_ rfl ?_ (tF 1 ?_ rfl ?_ (tF 2 ?_ rfl ?_ (tF 4 ?_ rfl ?_ (tF 5 ?_ rfl ?_ ?_))));all_goals (try (
     intro w;go_simp<;>(try with_reducible rfl)))
    refine rF [3,6] ?_;refine AllReady.cons rfl (fun K hK=>?_) ?_
    ·go_simp;refine hK _ _ ?_;clear hK K;refine oF 6 rfl fun K hK=>?_
     go_simp;refine hK _ _ ?_;clear hK K;refine tF 7 ?_ rfl ?_ (tF 8 ?_ rfl ?_ ?_);all_goals (try (
      intro w;go_simp<;>(try with_reducible rfl)))
     refine oF 9 rfl fun K hK=>?_
     go_simp;refine hK _ _ ?_;clear hK K;refine dF ?_;go_wp2;first|(go_ret;exact⟨rfl,HST.o _ (HS0.o.drewN _).drew⟩)|exact bodyPost_ret (results_none rfl _ _ _) rfl ⟨rfl,HST.o _ (HS0.o.drewN _).drew⟩|exact bodyPost_end (results_none rfl _ _ _) rfl ⟨rfl,HST.o _ (HS0.o.drewN _).drew⟩
    refine nF rfl fun K hK=>?_
    ·go_simp;refine hK _ _ ?_;clear hK K;refine oF 3 rfl fun K hK=>?_
     go_simp;refine hK _ _ ?_;clear hK K;refine tF 7 ?_ rfl ?_ (tF 8 ?_ rfl ?_ ?_);all_goals (try (
      intro w;go_simp<;>(try with_reducible rfl)))
     refine oF 9 rfl fun K hK=>?_
     go_simp;refine hK _ _ ?_;clear hK K;refine dF ?_;go_wp2;first|(go_ret;exact⟨rfl,HST.o _ (HS0.o.drewN _).drew⟩)|exact bodyPost_ret (results_none rfl _ _ _) rfl ⟨rfl,HST.o _ (HS0.o.drewN _).drew⟩|exact bodyPost_end (results_none rfl _ _ _) rfl ⟨rfl,HST.o _ (HS0.o.drewN _).drew⟩
   ·by_cases hws:aw=si
    ·have d3:((aw:Int)==(si:Int))=true:=by rw[hws];simp
     have hy:({ t with yielding:=true,since:=aw }:PTh)=y0:=by rw[HYE.o,if_pos ⟨hae,haw,.inr hws⟩]
     subst hy;clear HYE HPA hae haw hws;generalize ({ t with yielding:=true,since:=aw }:PTh)=yy at *
     go_enter Tryz.func65,Tryz.ntmps65;go_wp2;go_quiet (fail);go_wp2;refine wp_region_any (by kernel_rfl) ?_
     try (change wpAny _ _ _ _ _ _ _ (World.drew _))
     refine tF 0 ?_ rfl ?_ (tF 1 ?_ rfl ?_ (tF 2 ?_ rfl ?_ (tF 4 ?_ rfl ?_ (tF 5 ?_ rfl ?_ ?_))));all_goals (try (
      intro w;go_simp<;>(try with_reducible rfl)))
     refine rF [3,6] ?_;refine AllReady.cons rfl (fun K hK=>?_) ?_
     ·go_simp;refine hK _ _ ?_;clear hK K;refine oF 6 rfl fun K hK=>?_
      go_simp;refine hK _ _ ?_;clear hK K;refine tF 7 ?_ rfl ?_ (tF 8 ?_ rfl ?_ ?_);all_goals (try (
       intro w;go_simp<;>(try with_reducible rfl)))
      refine oF 9 rfl fun K hK=>?_
      go_simp;refine hK _ _ ?_;clear hK K;refine dF ?_;go_wp2;first|(go_ret;exact⟨rfl,HST.o _ (HS0.o.drewN _).drew⟩)|exact bodyPost_ret (results_none rfl _ _ _) rfl ⟨rfl,HST.o _ (HS0.o.drewN _).drew⟩|exact bodyPost_end (results_none rfl _ _ _) rfl ⟨rfl,HST.o _ (HS0.o.drewN _).drew⟩
     refine nF rfl fun K hK=>?_
     ·go_simp;refine hK _ _ ?_;clear hK K;refine oF 3 rfl fun K hK=>?_
      go_simp;refine hK _ _ ?_;clear hK K;refine tF 7 ?_ rfl ?_ (tF 8 ?_ rfl ?_ ?_);all_goals (try (
       intro w;go_simp<;>(try with_reducible rfl)))
      refine oF 9 rfl fun K hK=>?_
      go_simp;refine hK _ _ ?_;clear hK K;refine dF ?_;go_wp2;first|(go_ret;exact⟨rfl,HST.o _ (HS0.o.drewN _).drew⟩)|exact bodyPost_ret (results_none rfl _ _ _) rfl ⟨rfl,HST.o _ (HS0.o.drewN _).drew⟩|exact bodyPost_end (results_none rfl _ _ _) rfl ⟨rfl,HST.o _ (HS0.o.drewN _).drew⟩
    ·have d3:((aw:Int)==(si:Int))=false:=by rw[beq_eq_false_iff_ne];omega
     have hy:t.pause s d=y0:=by rw[HYE.o,if_neg (fun h9=>h9.2.2.elim (fun h8=>by cases h8) hws)]
     subst hy;clear HYE HST hae haw hws;generalize t.pause s d=yy at *
     go_enter Tryz.func65,Tryz.ntmps65;go_wp2;go_quiet (fail);go_wp2_with (go_at_call 96;refine(HPA.o _ (HS0.o.drewN _)).mono ?_;rintro e w1 ⟨rfl,hs⟩;have HZ:=h_ hs;clear hs);first|(go_ret;exact⟨rfl,HZ.o⟩)|exact bodyPost_end (results_none rfl _ _ _) rfl ⟨rfl,HZ.o⟩|exact bodyPost_ret (results_none rfl _ _ _) rfl ⟨rfl,HZ.o⟩
 ·have d1:((ae:Int)==0)=false:=by rw[beq_eq_false_iff_ne];omega
  have hy:t.pause s d=y0:=by rw[HYE.o,if_neg (fun h9=>hae h9.1)]
  subst hy;clear HYE HST hae;generalize t.pause s d=yy at *
  go_enter Tryz.func65,Tryz.ntmps65;go_wp2;go_quiet (fail);go_wp2_with (go_at_call 96;refine(HPA.o _ (HS0.o.drewN _)).mono ?_;rintro e w1 ⟨rfl,hs⟩;have HZ:=h_ hs;clear hs);first|(go_ret;exact⟨rfl,HZ.o⟩)|exact bodyPost_end (results_none rfl _ _ _) rfl ⟨rfl,HZ.o⟩|exact bodyPost_ret (results_none rfl _ _ _) rfl ⟨rfl,HZ.o⟩
theorem th_tell [Inhabited PowO](ω w:World)(F:HP)(b:Nat)(s:PSt)(t:PTh)(h:Sat ω w (thH b s t*(powH*F)))(hs:s.kept)(K:Nat)(hK:ThFine K t)(hKb:K≤100000)(a:PAns)(d p:Nat)(hd:d<256)(ho:t.state=1→∀x,t.now=some x→AtTellOk s x a):
  Calls Tryz.prog 39 #[.pointer (some ⟨b,0,none⟩),ansA a,.int .u8 d,.int .i64 p] w (Rets ω (powH*F) (.tuple #[]) (thH b s (t.tell s a d p))):=by
 obtain⟨D,h⟩:=thH_of h;have hfit:t.fit:=⟨hK.job,hK.jobs,fun q hq=>⟨(hK.prog q hq).code.elim fun _ hc=>hc.len,(hK.prog q hq).ok⟩⟩
 obtain⟨aw,⟨av,ah,ao⟩,ad,ae⟩:=a;show Calls _ _ #[_,.agg #[.int .u64 aw,.int .u64 av,.bool ah,.int .i64 ao,.bool ad,.int .i64 ae],_,_] _ _
 have hb1:=thX_blk h;have kf1:=hb1.frozen;have kl1:=hb1.lt;have HS0:Hid (Sat ω (w.alloc (.cells #[.int .u64 aw,.int .u64 av,.bool ah,.int .i64 ao,.bool ad,.int .i64 ae] 100)) (thX b s t D t.job*(powH*F))):=h_ (h.junk _);have hb:=thX_blk HS0.o;have kf:=hb.frozen;have kl:=hb.lt;obtain⟨st,hst⟩:∃st,t.state=st:=⟨_,rfl⟩;have k11:(w.alloc (.cells #[.int .u64 aw,.int .u64 av,.bool ah,.int .i64 ao,.bool ad,.int .i64 ae] 100)).cell? ⟨b,11,none⟩=some (.int .i64 st):=by rw[←hst];exact hb.cell 11
 have k11w:w.cell? ⟨b,11,none⟩=some (.int .i64 st):=by rw[←hst];exact hb1.cell 11
 have hK4:=hK.st;have hjl:=hK.jlt;rw[hst] at hK4 ho hjl;by_cases h2:st=2
 ·have e0:t.tell s ⟨aw,⟨av,ah,ao⟩,ad,ae⟩ d p=t.yield_ s ⟨aw,⟨av,ah,ao⟩,ad,ae⟩ d:=by unfold PTh.tell;rw[hst,h2];rfl
  rw[e0];have HYI:Hid (∀n,Calls Tryz.prog 65 #[.pointer (some ⟨b,0,none⟩),.agg #[.int .u64 aw,.int .u64 av,.bool ah,.int .i64 ao,.bool ad,.int .i64 ae],.int .u8 d] ((w.alloc (.cells #[.int .u64 aw,.int .u64 av,.bool ah,.int .i64 ao,.bool ad,.int .i64 ae] 100)).drewN n) (Rets ω (powH*F) (.tuple #[]) (thH b s (t.yield_ s ⟨aw,⟨av,ah,ao⟩,ad,ae⟩ d)))):=h_ (fun n=>th_yield ω _ _ b s t D (HS0.o.drewN n) hs hfit (by have:=hK.confl;omega) d hd aw av ao ae ah ad)
  have HY0:=h_ (HYI.o 0);have d1:((st:Int)==1)=false:=by rw[h2];rfl
  have d2:((st:Int)==2)=true:=by rw[h2];rfl
  generalize t.yield_ s ⟨aw,⟨av,ah,ao⟩,ad,ae⟩ d=yy at *
  clear h hb hb1 hst hK4 ho hjl h2 e0 hfit hK;go_enter Tryz.func39,Tryz.ntmps39;go_wp2_with (go_at_call 65;refine(HY0.o).mono ?_;rintro e w1 ⟨rfl,hs⟩;have HZ:=h_ hs;clear hs);first|(go_ret;exact⟨rfl,HZ.o⟩)|exact bodyPost_end (results_none rfl _ _ _) rfl ⟨rfl,HZ.o⟩|exact bodyPost_ret (results_none rfl _ _ _) rfl ⟨rfl,HZ.o⟩
 have d2:((st:Int)==2)=false:=by rw[beq_eq_false_iff_ne];omega
 have d5:((st:Int)==5)=false:=by rw[beq_eq_false_iff_ne];omega
 by_cases h1:st=1
 ·obtain⟨x,hx⟩:=hK.some_ (hst.trans h1);obtain⟨hfx,hfy,hwo⟩:=ho h1 x hx;obtain⟨y,hy⟩:∃y,x.tell s ⟨aw,⟨av,ah,ao⟩,ad,ae⟩=y:=⟨_,rfl⟩;have d1:((st:Int)==1)=true:=by rw[h1];rfl
  have e0:t.tell s ⟨aw,⟨av,ah,ao⟩,ad,ae⟩ d p=(if y.finOf≠0 then PTh.ended { t with now:=some y,born:=if(y.begun&&!x.begun)=true then p else t.born } s y d p else { t with now:=some y,born:=if(y.begun&&!x.begun)=true then p else t.born }):=by
   unfold PTh.tell;simp only[hst,h1,hx,hy]
  obtain⟨fo,hfo⟩:∃fo,y.finOf=fo:=⟨_,rfl⟩;obtain⟨yb,hyb⟩:∃yb,y.begun=yb:=⟨_,rfl⟩;obtain⟨xb,hxb⟩:∃xb,x.begun=xb:=⟨_,rfl⟩;rw[hfo,hyb,hxb] at e0;have k16:(w.alloc (.cells #[.int .u64 aw,.int .u64 av,.bool ah,.int .i64 ao,.bool ad,.int .i64 ae] 100)).cell? ⟨b,16,none⟩=some (.pointer (some ⟨D.nb,0,none⟩)):=by
   have e:nowV D.nb t.now=pV D.nb:=by rw[hx];rfl
   have:=hb.cell 16
   rw[this];show some (nowV D.nb t.now)=_
   rw[e];rfl
  have HB1:Hid (Calls Tryz.prog 61 #[.pointer (some ⟨D.nb,0,none⟩)] (w.alloc (.cells #[.int .u64 aw,.int .u64 av,.bool ah,.int .i64 ao,.bool ad,.int .i64 ae] 100)) fun e w'=>e=.returned (.tuple #[.int .u64 x.begin,.bool xb])∧∃q,w'=(w.alloc (.cells #[.int .u64 aw,.int .u64 av,.bool ah,.int .i64 ao,.bool ad,.int .i64 ae] 100)).drewN q):=h_ (by
   obtain⟨G,g1,_⟩:=thX_at HS0.o hx;rw[←hxb];exact at_begin ω _ G D.nb s x g1)
  have HTE:Hid (∀w1,Sat ω w1 (thX b s t D t.job*(powH*F))→Calls Tryz.prog 62 #[.pointer (some ⟨D.nb,0,none⟩),.agg #[.int .u64 aw,.int .u64 av,.bool ah,.int .i64 ao,.bool ad,.int .i64 ae]] w1 fun e w'=>e=.returned (.tuple #[])∧Sat ω w' (thX b s { t with now:=some y } D t.job*(powH*F))):=h_ (fun w1 h9=>by
   obtain⟨G,g1,g2⟩:=thX_at h9 hx;refine(at_tell ω w1 G D.nb s x g1 hs.fit ⟨aw,⟨av,ah,ao⟩,ad,ae⟩ ⟨hfx,hfy,hwo⟩).mono ?_;rintro e w2 ⟨rfl,h10⟩;rw[hy] at h10;exact⟨rfl,(g2 w2 emp y h10.emp_).perm (emp_star _)⟩)
  have HB2:Hid (∀w1,Sat ω w1 (thX b s { t with now:=some y } D t.job*(powH*F))→Calls Tryz.prog 61 #[.pointer (some ⟨D.nb,0,none⟩)] w1 fun e w'=>e=.returned (.tuple #[.int .u64 y.begin,.bool yb])∧∃q,w'=w1.drewN q):=h_ (fun w1 h9=>by
   obtain⟨G,g1,_⟩:=thX_at (t:={ t with now:=some y }) h9 rfl
   rw[←hyb];exact at_begin ω _ G D.nb s y g1)
  have HEF:Hid (∀w1 bn,Sat ω w1 (thX b s { t with now:=some y,born:=bn } D t.job*(powH*F))→Calls Tryz.prog 63 #[.pointer (some ⟨D.nb,0,none⟩)] w1 fun e w'=>e=.returned (.int .i64 fo)∧w'=w1):=h_ (fun w1 bn h9=>by
   obtain⟨G,g1,_⟩:=thX_at (t:={ t with now:=some y,born:=bn }) h9 rfl
   rw[←hfo];exact at_end ω w1 G D.nb s y g1)
  rw[hy] at hfy;have HEN:Hid (∀w1 bn,Sat ω w1 (thX b s { t with now:=some y,born:=bn } D t.job*(powH*F))→Calls Tryz.prog 64 #[.pointer (some ⟨b,0,none⟩),.int .u8 d,.int .i64 p] w1 (Rets ω (powH*F) (.tuple #[]) (thH b s (PTh.ended { t with now:=some y,born:=bn } s y d p)))):=h_ (fun w1 bn h9=>by
   obtain⟨r1,r2,r3,r4⟩:=hfy.run;exact th_ended ω w1 F b s { t with now:=some y,born:=bn } D y rfl h9 ⟨r1,r2,r3,r4⟩ hs ⟨hfit.job,hfit.jobs,hfit.prog⟩ (hjl (by omega)) (Nat.le_trans hK.past hKb) (Nat.le_trans hK.res hKb) (Nat.le_trans hK.tries hKb) (Nat.le_trans hK.confl hKb) d p hd)
  have HBL:Hid (∀w1,Sat ω w1 (thX b s { t with now:=some y } D t.job*(powH*F))→Blk w1 b 138 (thC s { t with now:=some y } D t.job)):=h_ (fun w1 h9=>thX_blk h9)
  have HBO:Hid (∀w1,Sat ω w1 (thX b s { t with now:=some y } D t.job*(powH*F))→Sat ω (w1.setCell ⟨b,17,none⟩ (.int .i64 p)) (thX b s { t with now:=some y,born:=p } D t.job*(powH*F))):=h_ (fun w1 h9=>thX_put (t':={ t with now:=some y,born:=p }) h9 17 _ rfl rfl rfl rfl rfl)
  have HTO:Hid (∀w1 bn,Sat ω w1 (thX b s { t with now:=some y,born:=bn } D t.job*(powH*F))→Sat ω w1 (thH b s { t with now:=some y,born:=bn }*(powH*F))):=h_ (fun w1 bn h9=>thH_to (D:=D) h9)
  obtain⟨y0,hy0⟩:∃y0,t.tell s ⟨aw,⟨av,ah,ao⟩,ad,ae⟩ d p=y0:=⟨_,rfl⟩;rw[hy0] at e0 ⊢;have HE:=h_ e0;obtain⟨bo,hbo⟩:∃bo,t.born=bo:=⟨_,rfl⟩;have HSM:Hid (∀w1,Sat ω w1 (thX b s { t with now:=some y } D t.job*(powH*F))→Sat ω w1 (thX b s { t with now:=some y,born:=bo } D t.job*(powH*F))):=h_ (fun w1 h9=>by rw[←hbo];exact h9)
  have HBn:=h_ hbo;clear h hb hb1 hst hK4 ho hjl h2 h1 e0 hy0 hfit hK hx hfx hfy hwo hy hfo hyb hxb hbo k11w hKb hs;cases yb
  ·cases xb
   ·by_cases hz:fo=0
    ·have dz:((fo:Int) != 0)=false:=by rw[hz];rfl
     have hyy:({ t with now:=some y,born:=bo }:PTh)=y0:=by rw[HE.o,if_neg (fun h9=>h9 hz),HBn.o];rfl
     subst hyy;clear HE hz;have HTO2:=h_ (fun w1 h9=>HTO.o w1 bo h9)
     go_enter Tryz.func39,Tryz.ntmps39;go_wp2_with (go_at_call 61;refine(HB1.o).mono ?_;rintro e w1 ⟨rfl,q1,rfl⟩);refine rT 5 ?_;simp only[sD,sE,sF,sG];repeat still_step
     refine wpStill_nil ?_;go_wp2_with (first
      |(go_at_call 62;refine(HTE.o _ (HS0.o.drewN _).drew).mono ?_;rintro e wT ⟨rfl,hs⟩;have HT:=h_ hs;clear hs;have kT:=HBL.o _ HT.o;have qf:=kT.frozen;have ql:=kT.lt;have qE:=kT.cell 16;have q16:wT.cell? ⟨b,16,none⟩=some (.pointer (some ⟨D.nb,0,none⟩)):=qE;have q17:wT.cell? ⟨b,17,none⟩=some (.int .i64 bo):=(by rw[←HBn.o];exact kT.cell 17);clear kT qE)
      |(go_at_call 61;refine(HB2.o _ HT.o).mono ?_;rintro e w1 ⟨rfl,q2,rfl⟩)
      |(go_at_call 63;refine(HEF.o _ bo (HSM.o _ (HT.o.drewN _))).mono ?_;rintro e w1 ⟨rfl,rfl⟩))
     first|(go_ret;exact⟨rfl,HTO2.o _ (HSM.o _ (HT.o.drewN _))⟩)|exact bodyPost_end (results_none rfl _ _ _) rfl ⟨rfl,HTO2.o _ (HSM.o _ (HT.o.drewN _))⟩|exact bodyPost_ret (results_none rfl _ _ _) rfl ⟨rfl,HTO2.o _ (HSM.o _ (HT.o.drewN _))⟩
    ·have dz:((fo:Int) != 0)=true:=by simp;omega
     have hyy:PTh.ended ({ t with now:=some y,born:=bo }:PTh) s y d p=y0:=by rw[HE.o,if_pos hz,HBn.o];rfl
     subst hyy;clear HE hz;have HEN2:=h_ (fun w1 h9=>HEN.o w1 bo h9)
     generalize PTh.ended ({ t with now:=some y,born:=bo }:PTh) s y d p=yy at HEN2 ⊢
     go_enter Tryz.func39,Tryz.ntmps39;go_wp2_with (go_at_call 61;refine(HB1.o).mono ?_;rintro e w1 ⟨rfl,q1,rfl⟩);refine rT 5 ?_;simp only[sD,sE,sF,sG];repeat still_step
     refine wpStill_nil ?_;go_wp2_with (first
      |(go_at_call 62;refine(HTE.o _ (HS0.o.drewN _).drew).mono ?_;rintro e wT ⟨rfl,hs⟩;have HT:=h_ hs;clear hs;have kT:=HBL.o _ HT.o;have qf:=kT.frozen;have ql:=kT.lt;have qE:=kT.cell 16;have q16:wT.cell? ⟨b,16,none⟩=some (.pointer (some ⟨D.nb,0,none⟩)):=qE;have q17:wT.cell? ⟨b,17,none⟩=some (.int .i64 bo):=(by rw[←HBn.o];exact kT.cell 17);clear kT qE)
      |(go_at_call 61;refine(HB2.o _ HT.o).mono ?_;rintro e w1 ⟨rfl,q2,rfl⟩)
      |(go_at_call 63;refine(HEF.o _ bo (HSM.o _ (HT.o.drewN _))).mono ?_;rintro e w1 ⟨rfl,rfl⟩)
      |(go_at_call 64;refine(HEN2.o _ (HSM.o _ (HT.o.drewN _))).mono ?_;rintro e w1 ⟨rfl,hs⟩;have HZ:=h_ hs;clear hs))
     first|(go_ret;exact⟨rfl,HZ.o⟩)|exact bodyPost_end (results_none rfl _ _ _) rfl ⟨rfl,HZ.o⟩|exact bodyPost_ret (results_none rfl _ _ _) rfl ⟨rfl,HZ.o⟩
   ·by_cases hz:fo=0
    ·have dz:((fo:Int) != 0)=false:=by rw[hz];rfl
     have hyy:({ t with now:=some y,born:=bo }:PTh)=y0:=by rw[HE.o,if_neg (fun h9=>h9 hz),HBn.o];rfl
     subst hyy;clear HE hz;have HTO2:=h_ (fun w1 h9=>HTO.o w1 bo h9)
     go_enter Tryz.func39,Tryz.ntmps39;go_wp2_with (go_at_call 61;refine(HB1.o).mono ?_;rintro e w1 ⟨rfl,q1,rfl⟩);refine rT 5 ?_;simp only[sD,sE,sF,sG];repeat still_step
     refine wpStill_nil ?_;go_wp2_with (first
      |(go_at_call 62;refine(HTE.o _ (HS0.o.drewN _).drew).mono ?_;rintro e wT ⟨rfl,hs⟩;have HT:=h_ hs;clear hs;have kT:=HBL.o _ HT.o;have qf:=kT.frozen;have ql:=kT.lt;have qE:=kT.cell 16;have q16:wT.cell? ⟨b,16,none⟩=some (.pointer (some ⟨D.nb,0,none⟩)):=qE;have q17:wT.cell? ⟨b,17,none⟩=some (.int .i64 bo):=(by rw[←HBn.o];exact kT.cell 17);clear kT qE)
      |(go_at_call 61;refine(HB2.o _ HT.o).mono ?_;rintro e w1 ⟨rfl,q2,rfl⟩)
      |(go_at_call 63;refine(HEF.o _ bo (HSM.o _ (HT.o.drewN _))).mono ?_;rintro e w1 ⟨rfl,rfl⟩))
     first|(go_ret;exact⟨rfl,HTO2.o _ (HSM.o _ (HT.o.drewN _))⟩)|exact bodyPost_end (results_none rfl _ _ _) rfl ⟨rfl,HTO2.o _ (HSM.o _ (HT.o.drewN _))⟩|exact bodyPost_ret (results_none rfl _ _ _) rfl ⟨rfl,HTO2.o _ (HSM.o _ (HT.o.drewN _))⟩
    ·have dz:((fo:Int) != 0)=true:=by simp;omega
     have hyy:PTh.ended ({ t with now:=some y,born:=bo }:PTh) s y d p=y0:=by rw[HE.o,if_pos hz,HBn.o];rfl
     subst hyy;clear HE hz;have HEN2:=h_ (fun w1 h9=>HEN.o w1 bo h9)
     generalize PTh.ended ({ t with now:=some y,born:=bo }:PTh) s y d p=yy at HEN2 ⊢
     go_enter Tryz.func39,Tryz.ntmps39;go_wp2_with (go_at_call 61;refine(HB1.o).mono ?_;rintro e w1 ⟨rfl,q1,rfl⟩);refine rT 5 ?_;simp only[sD,sE,sF,sG];repeat still_step
     refine wpStill_nil ?_;go_wp2_with (first
      |(go_at_call 62;refine(HTE.o _ (HS0.o.drewN _).drew).mono ?_;rintro e wT ⟨rfl,hs⟩;have HT:=h_ hs;clear hs;have kT:=HBL.o _ HT.o;have qf:=kT.frozen;have ql:=kT.lt;have qE:=kT.cell 16;have q16:wT.cell? ⟨b,16,none⟩=some (.pointer (some ⟨D.nb,0,none⟩)):=qE;have q17:wT.cell? ⟨b,17,none⟩=some (.int .i64 bo):=(by rw[←HBn.o];exact kT.cell 17);clear kT qE)
      |(go_at_call 61;refine(HB2.o _ HT.o).mono ?_;rintro e w1 ⟨rfl,q2,rfl⟩)
      |(go_at_call 63;refine(HEF.o _ bo (HSM.o _ (HT.o.drewN _))).mono ?_;rintro e w1 ⟨rfl,rfl⟩)
      |(go_at_call 64;refine(HEN2.o _ (HSM.o _ (HT.o.drewN _))).mono ?_;rintro e w1 ⟨rfl,hs⟩;have HZ:=h_ hs;clear hs))
     first|(go_ret;exact⟨rfl,HZ.o⟩)|exact bodyPost_end (results_none rfl _ _ _) rfl ⟨rfl,HZ.o⟩|exact bodyPost_ret (results_none rfl _ _ _) rfl ⟨rfl,HZ.o⟩
  ·cases xb
   ·by_cases hz:fo=0
    ·have dz:((fo:Int) != 0)=false:=by rw[hz];rfl
     have hyy:({ t with now:=some y,born:=p }:PTh)=y0:=by rw[HE.o,if_neg (fun h9=>h9 hz)];rfl
     subst hyy;clear HE hz;have HTO2:=h_ (fun w1 h9=>HTO.o w1 p h9)
     go_enter Tryz.func39,Tryz.ntmps39;go_wp2_with (go_at_call 61;refine(HB1.o).mono ?_;rintro e w1 ⟨rfl,q1,rfl⟩);refine rT 5 ?_;simp only[sD,sE,sF,sG];repeat still_step
     refine wpStill_nil ?_;go_wp2_with (first
      |(go_at_call 62;refine(HTE.o _ (HS0.o.drewN _).drew).mono ?_;rintro e wT ⟨rfl,hs⟩;have HT:=h_ hs;clear hs;have kT:=HBL.o _ HT.o;have qf:=kT.frozen;have ql:=kT.lt;have qE:=kT.cell 16;have q16:wT.cell? ⟨b,16,none⟩=some (.pointer (some ⟨D.nb,0,none⟩)):=qE;have q17:wT.cell? ⟨b,17,none⟩=some (.int .i64 bo):=(by rw[←HBn.o];exact kT.cell 17);clear kT qE)
      |(go_at_call 61;refine(HB2.o _ HT.o).mono ?_;rintro e w1 ⟨rfl,q2,rfl⟩)
      |(go_at_call 63;refine(HEF.o _ p (HBO.o _ (HT.o.drewN _))).mono ?_;rintro e w1 ⟨rfl,rfl⟩))
     first|(go_ret;exact⟨rfl,HTO2.o _ (HBO.o _ (HT.o.drewN _))⟩)|exact bodyPost_end (results_none rfl _ _ _) rfl ⟨rfl,HTO2.o _ (HBO.o _ (HT.o.drewN _))⟩|exact bodyPost_ret (results_none rfl _ _ _) rfl ⟨rfl,HTO2.o _ (HBO.o _ (HT.o.drewN _))⟩
    ·have dz:((fo:Int) != 0)=true:=by simp;omega
     have hyy:PTh.ended ({ t with now:=some y,born:=p }:PTh) s y d p=y0:=by rw[HE.o,if_pos hz];rfl
     subst hyy;clear HE hz;have HEN2:=h_ (fun w1 h9=>HEN.o w1 p h9)
     generalize PTh.ended ({ t with now:=some y,born:=p }:PTh) s y d p=yy at HEN2 ⊢
     go_enter Tryz.func39,Tryz.ntmps39;go_wp2_with (go_at_call 61;refine(HB1.o).mono ?_;rintro e w1 ⟨rfl,q1,rfl⟩);refine rT 5 ?_;simp only[sD,sE,sF,sG];repeat still_step
     refine wpStill_nil ?_;go_wp2_with (first
      |(go_at_call 62;refine(HTE.o _ (HS0.o.drewN _).drew).mono ?_;rintro e wT ⟨rfl,hs⟩;have HT:=h_ hs;clear hs;have kT:=HBL.o _ HT.o;have qf:=kT.frozen;have ql:=kT.lt;have qE:=kT.cell 16;have q16:wT.cell? ⟨b,16,none⟩=some (.pointer (some ⟨D.nb,0,none⟩)):=qE;have q17:wT.cell? ⟨b,17,none⟩=some (.int .i64 bo):=(by rw[←HBn.o];exact kT.cell 17);clear kT qE)
      |(go_at_call 61;refine(HB2.o _ HT.o).mono ?_;rintro e w1 ⟨rfl,q2,rfl⟩)
      |(go_at_call 63;refine(HEF.o _ p (HBO.o _ (HT.o.drewN _))).mono ?_;rintro e w1 ⟨rfl,rfl⟩)
      |(go_at_call 64;refine(HEN2.o _ (HBO.o _ (HT.o.drewN _))).mono ?_;rintro e w1 ⟨rfl,hs⟩;have HZ:=h_ hs;clear hs))
     first|(go_ret;exact⟨rfl,HZ.o⟩)|exact bodyPost_end (results_none rfl _ _ _) rfl ⟨rfl,HZ.o⟩|exact bodyPost_ret (results_none rfl _ _ _) rfl ⟨rfl,HZ.o⟩
   ·by_cases hz:fo=0
    ·have dz:((fo:Int) != 0)=false:=by rw[hz];rfl
     have hyy:({ t with now:=some y,born:=bo }:PTh)=y0:=by rw[HE.o,if_neg (fun h9=>h9 hz),HBn.o];rfl
     subst hyy;clear HE hz;have HTO2:=h_ (fun w1 h9=>HTO.o w1 bo h9)
     go_enter Tryz.func39,Tryz.ntmps39;go_wp2_with (go_at_call 61;refine(HB1.o).mono ?_;rintro e w1 ⟨rfl,q1,rfl⟩);refine rT 5 ?_;simp only[sD,sE,sF,sG];repeat still_step
     refine wpStill_nil ?_;go_wp2_with (first
      |(go_at_call 62;refine(HTE.o _ (HS0.o.drewN _).drew).mono ?_;rintro e wT ⟨rfl,hs⟩;have HT:=h_ hs;clear hs;have kT:=HBL.o _ HT.o;have qf:=kT.frozen;have ql:=kT.lt;have qE:=kT.cell 16;have q16:wT.cell? ⟨b,16,none⟩=some (.pointer (some ⟨D.nb,0,none⟩)):=qE;have q17:wT.cell? ⟨b,17,none⟩=some (.int .i64 bo):=(by rw[←HBn.o];exact kT.cell 17);clear kT qE)
      |(go_at_call 61;refine(HB2.o _ HT.o).mono ?_;rintro e w1 ⟨rfl,q2,rfl⟩)
      |(go_at_call 63;refine(HEF.o _ bo (HSM.o _ (HT.o.drewN _))).mono ?_;rintro e w1 ⟨rfl,rfl⟩))
     first|(go_ret;exact⟨rfl,HTO2.o _ (HSM.o _ (HT.o.drewN _))⟩)|exact bodyPost_end (results_none rfl _ _ _) rfl ⟨rfl,HTO2.o _ (HSM.o _ (HT.o.drewN _))⟩|exact bodyPost_ret (results_none rfl _ _ _) rfl ⟨rfl,HTO2.o _ (HSM.o _ (HT.o.drewN _))⟩
    ·have dz:((fo:Int) != 0)=true:=by simp;omega
     have hyy:PTh.ended ({ t with now:=some y,born:=bo }:PTh) s y d p=y0:=by rw[HE.o,if_pos hz,HBn.o];rfl
     subst hyy;clear HE hz;have HEN2:=h_ (fun w1 h9=>HEN.o w1 bo h9)
     generalize PTh.ended ({ t with now:=some y,born:=bo }:PTh) s y d p=yy at HEN2 ⊢
     go_enter Tryz.func39,Tryz.ntmps39;go_wp2_with (go_at_call 61;refine(HB1.o).mono ?_;rintro e w1 ⟨rfl,q1,rfl⟩);refine rT 5 ?_;simp only[sD,sE,sF,sG];repeat still_step
     refine wpStill_nil ?_;go_wp2_with (first
      |(go_at_call 62;refine(HTE.o _ (HS0.o.drewN _).drew).mono ?_;rintro e wT ⟨rfl,hs⟩;have HT:=h_ hs;clear hs;have kT:=HBL.o _ HT.o;have qf:=kT.frozen;have ql:=kT.lt;have qE:=kT.cell 16;have q16:wT.cell? ⟨b,16,none⟩=some (.pointer (some ⟨D.nb,0,none⟩)):=qE;have q17:wT.cell? ⟨b,17,none⟩=some (.int .i64 bo):=(by rw[←HBn.o];exact kT.cell 17);clear kT qE)
      |(go_at_call 61;refine(HB2.o _ HT.o).mono ?_;rintro e w1 ⟨rfl,q2,rfl⟩)
      |(go_at_call 63;refine(HEF.o _ bo (HSM.o _ (HT.o.drewN _))).mono ?_;rintro e w1 ⟨rfl,rfl⟩)
      |(go_at_call 64;refine(HEN2.o _ (HSM.o _ (HT.o.drewN _))).mono ?_;rintro e w1 ⟨rfl,hs⟩;have HZ:=h_ hs;clear hs))
     first|(go_ret;exact⟨rfl,HZ.o⟩)|exact bodyPost_end (results_none rfl _ _ _) rfl ⟨rfl,HZ.o⟩|exact bodyPost_ret (results_none rfl _ _ _) rfl ⟨rfl,HZ.o⟩
 ·have d1:((st:Int)==1)=false:=by rw[beq_eq_false_iff_ne];omega
  have e0:t.tell s ⟨aw,⟨av,ah,ao⟩,ad,ae⟩ d p=t:=by
   unfold PTh.tell;rcases hK4 with k|k|k|k|k
   ·exact absurd k h1
   ·exact absurd k h2
   all_goals (rw[hst,k];rfl)
  rw[e0];have HZ:Hid (Sat ω (w.alloc (.cells #[.int .u64 aw,.int .u64 av,.bool ah,.int .i64 ao,.bool ad,.int .i64 ae] 100)) (thH b s t*(powH*F))):=h_ (thH_to HS0.o);clear h hb hb1 hst hK4 ho hjl h2 h1 e0 hfit hK;go_enter Tryz.func39,Tryz.ntmps39;go_wp2;first|(go_ret;exact⟨rfl,HZ.o⟩)|exact bodyPost_end (results_none rfl _ _ _) rfl ⟨rfl,HZ.o⟩|exact bodyPost_ret (results_none rfl _ _ _) rfl ⟨rfl,HZ.o⟩
end Go.Proofs.YtfodmgaliclhfaaGreatDoor
