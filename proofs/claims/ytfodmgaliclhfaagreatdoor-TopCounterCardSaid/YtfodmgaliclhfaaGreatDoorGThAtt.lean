/- Lemmas; no conditions. -/
import Derived.Test.YtfodmgaliclhfaaGreatDoorThEnded
namespace Go.Proofs.YtfodmgaliclhfaaGreatDoor
set_option linter.unusedVariables false
set_option linter.unusedSimpArgs false
set_option maxRecDepth 100000
set_option maxHeartbeats 16000000
open Go.RowKit
theorem th_yield (ω w:World)(F:HP)(b:Nat)(s:PSt)(t:PTh)(D:ThD)(h:Sat ω w (thX b s t D t.job*F))(hs:s.kept)(hf:t.fit)(hc:t.conflicts≤1000000)(d:Nat)(hd:d<256)(aw av ao ae:Nat)(ah ad:Bool):
  Calls Tryz.prog 65 #[.pointer (some ⟨b,0,none⟩),.agg #[.int .u64 aw,.int .u64 av,.bool ah,.int .i64 ao,.bool ad,.int .i64 ae],.int .u8 d] w (Rets ω F (.tuple #[]) (thH b s (t.yield_ s ⟨aw,⟨av,ah,ao⟩,ad,ae⟩ d))):=by
 have HPA:Hid (∀w1,Sat ω w1 (thX b s t D t.job*F)→Calls Tryz.prog 96 #[.pointer (some ⟨b,0,none⟩),.int .u8 d] w1 (Rets ω F (.tuple #[]) (thH b s (t.pause s d)))):=h_ (fun w1 h1=>th_pause ω w1 F b s t D h1 hs hf hc d hd)
 have HS0:Hid (Sat ω (w.alloc (.cells #[.int .u64 aw,.int .u64 av,.bool ah,.int .i64 ao,.bool ad,.int .i64 ae] 100)) (thX b s t D t.job*F)):=h_ (h.junk _);have hb:=thX_blk HS0.o;have kf:=hb.frozen;have kl:=hb.lt;obtain⟨yl,hyl⟩:∃yl,t.yielding=yl:=⟨_,rfl⟩;obtain⟨si,hsi⟩:∃si,t.since=si:=⟨_,rfl⟩;have k24:(w.alloc (.cells #[.int .u64 aw,.int .u64 av,.bool ah,.int .i64 ao,.bool ad,.int .i64 ae] 100)).cell? ⟨b,24,none⟩=some (.int .u64 si):=by rw[←hsi];exact hb.cell 24
 have k25:(w.alloc (.cells #[.int .u64 aw,.int .u64 av,.bool ah,.int .i64 ao,.bool ad,.int .i64 ae] 100)).cell? ⟨b,25,none⟩=some (.bool yl):=by rw[←hyl];exact hb.cell 25
 have hb1:=thX_blk h;have kf1:=hb1.frozen;have kl1:=hb1.lt;have HST:Hid (∀w1,Sat ω w1 (thX b s t D t.job*F)→Sat ω ((w1.setCell ⟨b,25,none⟩ (.bool true)).setCell ⟨b,24,none⟩ (.int .u64 aw)) (thH b s { t with yielding:=true,since:=aw }*F)):=h_ (fun w1 h1=>thH_to (D:=D) (thX_put (t':={ t with yielding:=true,since:=aw }) (thX_put (t':={ t with yielding:=true }) h1 25 (.bool true) rfl rfl rfl rfl rfl) 24 _ rfl rfl rfl rfl rfl))
 have HYE:Hid (t.yield_ s ⟨aw,⟨av,ah,ao⟩,ad,ae⟩ d=if ae=0∧aw≠0∧(yl=false∨aw=si) then { t with yielding:=true,since:=aw } else t.pause s d):=h_ (by
  unfold PTh.yield_;simp only[hyl,hsi])
 obtain⟨y0,hy0⟩:∃y0,t.yield_ s ⟨aw,⟨av,ah,ao⟩,ad,ae⟩ d=y0:=⟨_,rfl⟩;rw[hy0] at HYE ⊢;clear h hb hb1 hs hf hc hyl hsi hy0;by_cases hae:ae=0
 ·have d1:((ae:Int)==0)=true:=by rw[hae];rfl
  by_cases haw:aw=0
  ·have d2:((aw:Int) != 0)=false:=by rw[haw];rfl
   have hy:t.pause s d=y0:=by rw[HYE.o,if_neg (fun h9=>h9.2.1 haw)]
   subst hy;clear HYE HST hae haw;generalize t.pause s d=yy at *
   go_enter Tryz.func65,Tryz.ntmps65;go_wp2;go_quiet (fail);go_wp2_with (go_at_call 96;refine(HPA.o _ (HS0.o.drewN _)).mono ?_;rintro e w1 ⟨rfl,hs⟩;have HZ:=h_ hs;clear hs);first|(go_ret;exact⟨rfl,HZ.o⟩)|exact bodyPost_end (results_none rfl _ _ _) rfl ⟨rfl,HZ.o⟩|exact bodyPost_ret (results_none rfl _ _ _) rfl ⟨rfl,HZ.o⟩
  ·have d2:((aw:Int) != 0)=true:=by simp;omega
   cases yl
   ·have hy:({ t with yielding:=true,since:=aw }:PTh)=y0:=by rw[HYE.o,if_pos ⟨hae,haw,.inl rfl⟩]
    subst hy;clear HYE HPA hae haw;generalize ({ t with yielding:=true,since:=aw }:PTh)=yy at *
    go_enter Tryz.func65,Tryz.ntmps65;go_wp2;go_quiet (fail);go_wp2;refine wp_region_any (by kernel_rfl) ?_
    try (change wpAny _ _ _ _ _ _ _ (World.drew _))
    refine tF 0 ?_ rfl ?_ (tF 1 ?_ rfl ?_ (tF 2 ?_ rfl ?_ (tF 4 ?_ rfl ?_ (tF 5 ?_ rfl ?_ ?_))));all_goals (try (
     intro w;go_simp<;>(try with_reducible rfl)))
    refine rF [3,6] ?_;refine AllReady.cons rfl (fun K hK=>?_) ?_
    ·go_simp;refine hK _ _ ?_;clear hK K;refine oF 6 rfl fun K hK=>?_
     go_simp;refine hK _ _ ?_;clear hK K;refine tF 7 ?_ rfl ?_ (tF 8 ?_ rfl ?_ ?_);all_goals (try (
      intro w;go_simp<;>(try with_reducible rfl)))
     refine oF 9 rfl fun K hK=>?_
     go_simp;refine hK _ _ ?_;clear hK K;refine dF ?_;go_wp2;first|(go_ret;exact⟨rfl,HST.o _ (HS0.o.drewN _).drew⟩)|exact bodyPost_ret (results_none rfl _ _ _) rfl ⟨rfl,HST.o _ (HS0.o.drewN _).drew⟩|exact bodyPost_end (results_none rfl _ _ _) rfl ⟨rfl,HST.o _ (HS0.o.drewN _).drew⟩
    refine nF rfl fun K hK=>?_
    ·go_simp;refine hK _ _ ?_;clear hK K;refine oF 3 rfl fun K hK=>?_
     go_simp;refine hK _ _ ?_;clear hK K;refine tF 7 ?_ rfl ?_ (tF 8 ?_ rfl ?_ ?_);all_goals (try (
      intro w;go_simp<;>(try with_reducible rfl)))
     refine oF 9 rfl fun K hK=>?_
     go_simp;refine hK _ _ ?_;clear hK K;refine dF ?_;go_wp2;first|(go_ret;exact⟨rfl,HST.o _ (HS0.o.drewN _).drew⟩)|exact bodyPost_ret (results_none rfl _ _ _) rfl ⟨rfl,HST.o _ (HS0.o.drewN _).drew⟩|exact bodyPost_end (results_none rfl _ _ _) rfl ⟨rfl,HST.o _ (HS0.o.drewN _).drew⟩
   ·by_cases hws:aw=si
    ·have d3:((aw:Int)==(si:Int))=true:=by rw[hws];simp
     have hy:({ t with yielding:=true,since:=aw }:PTh)=y0:=by rw[HYE.o,if_pos ⟨hae,haw,.inr hws⟩]
     subst hy;clear HYE HPA hae haw hws;generalize ({ t with yielding:=true,since:=aw }:PTh)=yy at *
     go_enter Tryz.func65,Tryz.ntmps65;go_wp2;go_quiet (fail);go_wp2;refine wp_region_any (by kernel_rfl) ?_
     try (change wpAny _ _ _ _ _ _ _ (World.drew _))
     refine tF 0 ?_ rfl ?_ (tF 1 ?_ rfl ?_ (tF 2 ?_ rfl ?_ (tF 4 ?_ rfl ?_ (tF 5 ?_ rfl ?_ ?_))));all_goals (try (
      intro w;go_simp<;>(try with_reducible rfl)))
     refine rF [3,6] ?_;refine AllReady.cons rfl (fun K hK=>?_) ?_
     ·go_simp;refine hK _ _ ?_;clear hK K;refine oF 6 rfl fun K hK=>?_
      go_simp;refine hK _ _ ?_;clear hK K;refine tF 7 ?_ rfl ?_ (tF 8 ?_ rfl ?_ ?_);all_goals (try (
       intro w;go_simp<;>(try with_reducible rfl)))
      refine oF 9 rfl fun K hK=>?_
      go_simp;refine hK _ _ ?_;clear hK K;refine dF ?_;go_wp2;first|(go_ret;exact⟨rfl,HST.o _ (HS0.o.drewN _).drew⟩)|exact bodyPost_ret (results_none rfl _ _ _) rfl ⟨rfl,HST.o _ (HS0.o.drewN _).drew⟩|exact bodyPost_end (results_none rfl _ _ _) rfl ⟨rfl,HST.o _ (HS0.o.drewN _).drew⟩
     refine nF rfl fun K hK=>?_
     ·go_simp;refine hK _ _ ?_;clear hK K;refine oF 3 rfl fun K hK=>?_
      go_simp;refine hK _ _ ?_;clear hK K;refine tF 7 ?_ rfl ?_ (tF 8 ?_ rfl ?_ ?_);all_goals (try (
       intro w;go_simp<;>(try with_reducible rfl)))
      refine oF 9 rfl fun K hK=>?_
      go_simp;refine hK _ _ ?_;clear hK K;refine dF ?_;go_wp2;first|(go_ret;exact⟨rfl,HST.o _ (HS0.o.drewN _).drew⟩)|exact bodyPost_ret (results_none rfl _ _ _) rfl ⟨rfl,HST.o _ (HS0.o.drewN _).drew⟩|exact bodyPost_end (results_none rfl _ _ _) rfl ⟨rfl,HST.o _ (HS0.o.drewN _).drew⟩
    ·have d3:((aw:Int)==(si:Int))=false:=by rw[beq_eq_false_iff_ne];omega
     have hy:t.pause s d=y0:=by rw[HYE.o,if_neg (fun h9=>h9.2.2.elim (fun h8=>by cases h8) hws)]
     subst hy;clear HYE HST hae haw hws;generalize t.pause s d=yy at *
     go_enter Tryz.func65,Tryz.ntmps65;go_wp2;go_quiet (fail);go_wp2_with (go_at_call 96;refine(HPA.o _ (HS0.o.drewN _)).mono ?_;rintro e w1 ⟨rfl,hs⟩;have HZ:=h_ hs;clear hs);first|(go_ret;exact⟨rfl,HZ.o⟩)|exact bodyPost_end (results_none rfl _ _ _) rfl ⟨rfl,HZ.o⟩|exact bodyPost_ret (results_none rfl _ _ _) rfl ⟨rfl,HZ.o⟩
 ·have d1:((ae:Int)==0)=false:=by rw[beq_eq_false_iff_ne];omega
  have hy:t.pause s d=y0:=by rw[HYE.o,if_neg (fun h9=>hae h9.1)]
  subst hy;clear HYE HST hae;generalize t.pause s d=yy at *
  go_enter Tryz.func65,Tryz.ntmps65;go_wp2;go_quiet (fail);go_wp2_with (go_at_call 96;refine(HPA.o _ (HS0.o.drewN _)).mono ?_;rintro e w1 ⟨rfl,hs⟩;have HZ:=h_ hs;clear hs);first|(go_ret;exact⟨rfl,HZ.o⟩)|exact bodyPost_end (results_none rfl _ _ _) rfl ⟨rfl,HZ.o⟩|exact bodyPost_ret (results_none rfl _ _ _) rfl ⟨rfl,HZ.o⟩
theorem th_tell [Inhabited PowO](ω w:World)(F:HP)(b:Nat)(s:PSt)(t:PTh)(h:Sat ω w (thH b s t*(powH*F)))(hs:s.kept)(K:Nat)(hK:ThFine K t)(hKb:K≤100000)(a:PAns)(d p:Nat)(hd:d<256)(ho:t.state=1→∀x,t.now=some x→AtTellOk s x a):
  Calls Tryz.prog 39 #[.pointer (some ⟨b,0,none⟩),ansA a,.int .u8 d,.int .i64 p] w (Rets ω (powH*F) (.tuple #[]) (thH b s (t.tell s a d p))):=by
 obtain⟨D,h⟩:=thH_of h;have hfit:t.fit:=⟨hK.job,hK.jobs,fun q hq=>⟨(hK.prog q hq).code.elim fun _ hc=>hc.len,(hK.prog q hq).ok⟩⟩
 obtain⟨aw,⟨av,ah,ao⟩,ad,ae⟩:=a;show Calls _ _ #[_,.agg #[.int .u64 aw,.int .u64 av,.bool ah,.int .i64 ao,.bool ad,.int .i64 ae],_,_] _ _
 have hb1:=thX_blk h;have kf1:=hb1.frozen;have kl1:=hb1.lt;have HS0:Hid (Sat ω (w.alloc (.cells #[.int .u64 aw,.int .u64 av,.bool ah,.int .i64 ao,.bool ad,.int .i64 ae] 100)) (thX b s t D t.job*(powH*F))):=h_ (h.junk _);have hb:=thX_blk HS0.o;have kf:=hb.frozen;have kl:=hb.lt;obtain⟨st,hst⟩:∃st,t.state=st:=⟨_,rfl⟩;have k11:(w.alloc (.cells #[.int .u64 aw,.int .u64 av,.bool ah,.int .i64 ao,.bool ad,.int .i64 ae] 100)).cell? ⟨b,11,none⟩=some (.int .i64 st):=by rw[←hst];exact hb.cell 11
 have k11w:w.cell? ⟨b,11,none⟩=some (.int .i64 st):=by rw[←hst];exact hb1.cell 11
 have hK4:=hK.st;have hjl:=hK.jlt;rw[hst] at hK4 ho hjl;by_cases h2:st=2
 ·have e0:t.tell s ⟨aw,⟨av,ah,ao⟩,ad,ae⟩ d p=t.yield_ s ⟨aw,⟨av,ah,ao⟩,ad,ae⟩ d:=by unfold PTh.tell;rw[hst,h2];rfl
  rw[e0];have HYI:Hid (∀n,Calls Tryz.prog 65 #[.pointer (some ⟨b,0,none⟩),.agg #[.int .u64 aw,.int .u64 av,.bool ah,.int .i64 ao,.bool ad,.int .i64 ae],.int .u8 d] ((w.alloc (.cells #[.int .u64 aw,.int .u64 av,.bool ah,.int .i64 ao,.bool ad,.int .i64 ae] 100)).drewN n) (Rets ω (powH*F) (.tuple #[]) (thH b s (t.yield_ s ⟨aw,⟨av,ah,ao⟩,ad,ae⟩ d)))):=h_ (fun n=>th_yield ω _ _ b s t D (HS0.o.drewN n) hs hfit (by have:=hK.confl;omega) d hd aw av ao ae ah ad)
  have HY0:=h_ (HYI.o 0);have d1:((st:Int)==1)=false:=by rw[h2];rfl
  have d2:((st:Int)==2)=true:=by rw[h2];rfl
  generalize t.yield_ s ⟨aw,⟨av,ah,ao⟩,ad,ae⟩ d=yy at *
  clear h hb hb1 hst hK4 ho hjl h2 e0 hfit hK;go_enter Tryz.func39,Tryz.ntmps39;go_wp2_with (go_at_call 65;refine(HY0.o).mono ?_;rintro e w1 ⟨rfl,hs⟩;have HZ:=h_ hs;clear hs);first|(go_ret;exact⟨rfl,HZ.o⟩)|exact bodyPost_end (results_none rfl _ _ _) rfl ⟨rfl,HZ.o⟩|exact bodyPost_ret (results_none rfl _ _ _) rfl ⟨rfl,HZ.o⟩
 have d2:((st:Int)==2)=false:=by rw[beq_eq_false_iff_ne];omega
 have d5:((st:Int)==5)=false:=by rw[beq_eq_false_iff_ne];omega
 by_cases h1:st=1
 ·obtain⟨x,hx⟩:=hK.some_ (hst.trans h1);obtain⟨hfx,hfy,hwo⟩:=ho h1 x hx;obtain⟨y,hy⟩:∃y,x.tell s ⟨aw,⟨av,ah,ao⟩,ad,ae⟩=y:=⟨_,rfl⟩;have d1:((st:Int)==1)=true:=by rw[h1];rfl
  have e0:t.tell s ⟨aw,⟨av,ah,ao⟩,ad,ae⟩ d p=(if y.finOf≠0 then PTh.ended { t with now:=some y,born:=if(y.begun&&!x.begun)=true then p else t.born } s y d p else { t with now:=some y,born:=if(y.begun&&!x.begun)=true then p else t.born }):=by
   unfold PTh.tell;simp only[hst,h1,hx,hy]
  obtain⟨fo,hfo⟩:∃fo,y.finOf=fo:=⟨_,rfl⟩;obtain⟨yb,hyb⟩:∃yb,y.begun=yb:=⟨_,rfl⟩;obtain⟨xb,hxb⟩:∃xb,x.begun=xb:=⟨_,rfl⟩;rw[hfo,hyb,hxb] at e0;have k16:(w.alloc (.cells #[.int .u64 aw,.int .u64 av,.bool ah,.int .i64 ao,.bool ad,.int .i64 ae] 100)).cell? ⟨b,16,none⟩=some (.pointer (some ⟨D.nb,0,none⟩)):=by
   have e:nowV D.nb t.now=pV D.nb:=by rw[hx];rfl
   have:=hb.cell 16
   rw[this];show some (nowV D.nb t.now)=_
   rw[e];rfl
  have HB1:Hid (Calls Tryz.prog 61 #[.pointer (some ⟨D.nb,0,none⟩)] (w.alloc (.cells #[.int .u64 aw,.int .u64 av,.bool ah,.int .i64 ao,.bool ad,.int .i64 ae] 100)) fun e w'=>e=.returned (.tuple #[.int .u64 x.begin,.bool xb])∧∃q,w'=(w.alloc (.cells #[.int .u64 aw,.int .u64 av,.bool ah,.int .i64 ao,.bool ad,.int .i64 ae] 100)).drewN q):=h_ (by
   obtain⟨G,g1,_⟩:=thX_at HS0.o hx;rw[←hxb];exact at_begin ω _ G D.nb s x g1)
  have HTE:Hid (∀w1,Sat ω w1 (thX b s t D t.job*(powH*F))→Calls Tryz.prog 62 #[.pointer (some ⟨D.nb,0,none⟩),.agg #[.int .u64 aw,.int .u64 av,.bool ah,.int .i64 ao,.bool ad,.int .i64 ae]] w1 fun e w'=>e=.returned (.tuple #[])∧Sat ω w' (thX b s { t with now:=some y } D t.job*(powH*F))):=h_ (fun w1 h9=>by
   obtain⟨G,g1,g2⟩:=thX_at h9 hx;refine(at_tell ω w1 G D.nb s x g1 hs.fit ⟨aw,⟨av,ah,ao⟩,ad,ae⟩ ⟨hfx,hfy,hwo⟩).mono ?_;rintro e w2 ⟨rfl,h10⟩;rw[hy] at h10;exact⟨rfl,(g2 w2 emp y h10.emp_).perm (emp_star _)⟩)
  have HB2:Hid (∀w1,Sat ω w1 (thX b s { t with now:=some y } D t.job*(powH*F))→Calls Tryz.prog 61 #[.pointer (some ⟨D.nb,0,none⟩)] w1 fun e w'=>e=.returned (.tuple #[.int .u64 y.begin,.bool yb])∧∃q,w'=w1.drewN q):=h_ (fun w1 h9=>by
   obtain⟨G,g1,_⟩:=thX_at (t:={ t with now:=some y }) h9 rfl
   rw[←hyb];exact at_begin ω _ G D.nb s y g1)
  have HEF:Hid (∀w1 bn,Sat ω w1 (thX b s { t with now:=some y,born:=bn } D t.job*(powH*F))→Calls Tryz.prog 63 #[.pointer (some ⟨D.nb,0,none⟩)] w1 fun e w'=>e=.returned (.int .i64 fo)∧w'=w1):=h_ (fun w1 bn h9=>by
   obtain⟨G,g1,_⟩:=thX_at (t:={ t with now:=some y,born:=bn }) h9 rfl
   rw[←hfo];exact at_end ω w1 G D.nb s y g1)
  rw[hy] at hfy;have HEN:Hid (∀w1 bn,Sat ω w1 (thX b s { t with now:=some y,born:=bn } D t.job*(powH*F))→Calls Tryz.prog 64 #[.pointer (some ⟨b,0,none⟩),.int .u8 d,.int .i64 p] w1 (Rets ω (powH*F) (.tuple #[]) (thH b s (PTh.ended { t with now:=some y,born:=bn } s y d p)))):=h_ (fun w1 bn h9=>by
   obtain⟨r1,r2,r3,r4⟩:=hfy.run;exact th_ended ω w1 F b s { t with now:=some y,born:=bn } D y rfl h9 ⟨r1,r2,r3,r4⟩ hs ⟨hfit.job,hfit.jobs,hfit.prog⟩ (hjl (by omega)) (Nat.le_trans hK.past hKb) (Nat.le_trans hK.res hKb) (Nat.le_trans hK.tries hKb) (Nat.le_trans hK.confl hKb) d p hd)
  have HBL:Hid (∀w1,Sat ω w1 (thX b s { t with now:=some y } D t.job*(powH*F))→Blk w1 b 138 (thC s { t with now:=some y } D t.job)):=h_ (fun w1 h9=>thX_blk h9)
  have HBO:Hid (∀w1,Sat ω w1 (thX b s { t with now:=some y } D t.job*(powH*F))→Sat ω (w1.setCell ⟨b,17,none⟩ (.int .i64 p)) (thX b s { t with now:=some y,born:=p } D t.job*(powH*F))):=h_ (fun w1 h9=>thX_put (t':={ t with now:=some y,born:=p }) h9 17 _ rfl rfl rfl rfl rfl)
  have HTO:Hid (∀w1 bn,Sat ω w1 (thX b s { t with now:=some y,born:=bn } D t.job*(powH*F))→Sat ω w1 (thH b s { t with now:=some y,born:=bn }*(powH*F))):=h_ (fun w1 bn h9=>thH_to (D:=D) h9)
  obtain⟨y0,hy0⟩:∃y0,t.tell s ⟨aw,⟨av,ah,ao⟩,ad,ae⟩ d p=y0:=⟨_,rfl⟩;rw[hy0] at e0 ⊢;have HE:=h_ e0;obtain⟨bo,hbo⟩:∃bo,t.born=bo:=⟨_,rfl⟩;have HSM:Hid (∀w1,Sat ω w1 (thX b s { t with now:=some y } D t.job*(powH*F))→Sat ω w1 (thX b s { t with now:=some y,born:=bo } D t.job*(powH*F))):=h_ (fun w1 h9=>by rw[←hbo];exact h9)
  have HBn:=h_ hbo;clear h hb hb1 hst hK4 ho hjl h2 h1 e0 hy0 hfit hK hx hfx hfy hwo hy hfo hyb hxb hbo k11w hKb hs;cases yb
  ·cases xb
   ·by_cases hz:fo=0
    ·have dz:((fo:Int) != 0)=false:=by rw[hz];rfl
     have hyy:({ t with now:=some y,born:=bo }:PTh)=y0:=by rw[HE.o,if_neg (fun h9=>h9 hz),HBn.o];rfl
     subst hyy;clear HE hz;have HTO2:=h_ (fun w1 h9=>HTO.o w1 bo h9)
     go_enter Tryz.func39,Tryz.ntmps39;go_wp2_with (go_at_call 61;refine(HB1.o).mono ?_;rintro e w1 ⟨rfl,q1,rfl⟩);refine rT 5 ?_;simp only[sD,sE,sF,sG];repeat still_step
     refine wpStill_nil ?_;go_wp2_with (first
      |(go_at_call 62;refine(HTE.o _ (HS0.o.drewN _).drew).mono ?_;rintro e wT ⟨rfl,hs⟩;have HT:=h_ hs;clear hs;have kT:=HBL.o _ HT.o;have qf:=kT.frozen;have ql:=kT.lt;have qE:=kT.cell 16;have q16:wT.cell? ⟨b,16,none⟩=some (.pointer (some ⟨D.nb,0,none⟩)):=qE;have q17:wT.cell? ⟨b,17,none⟩=some (.int .i64 bo):=(by rw[←HBn.o];exact kT.cell 17);clear kT qE)
      |(go_at_call 61;refine(HB2.o _ HT.o).mono ?_;rintro e w1 ⟨rfl,q2,rfl⟩)
      |(go_at_call 63;refine(HEF.o _ bo (HSM.o _ (HT.o.drewN _))).mono ?_;rintro e w1 ⟨rfl,rfl⟩))
     first|(go_ret;exact⟨rfl,HTO2.o _ (HSM.o _ (HT.o.drewN _))⟩)|exact bodyPost_end (results_none rfl _ _ _) rfl ⟨rfl,HTO2.o _ (HSM.o _ (HT.o.drewN _))⟩|exact bodyPost_ret (results_none rfl _ _ _) rfl ⟨rfl,HTO2.o _ (HSM.o _ (HT.o.drewN _))⟩
    ·have dz:((fo:Int) != 0)=true:=by simp;omega
     have hyy:PTh.ended ({ t with now:=some y,born:=bo }:PTh) s y d p=y0:=by rw[HE.o,if_pos hz,HBn.o];rfl
     subst hyy;clear HE hz;have HEN2:=h_ (fun w1 h9=>HEN.o w1 bo h9)
     generalize PTh.ended ({ t with now:=some y,born:=bo }:PTh) s y d p=yy at HEN2 ⊢
     go_enter Tryz.func39,Tryz.ntmps39;go_wp2_with (go_at_call 61;refine(HB1.o).mono ?_;rintro e w1 ⟨rfl,q1,rfl⟩);refine rT 5 ?_;simp only[sD,sE,sF,sG];repeat still_step
     refine wpStill_nil ?_;go_wp2_with (first
      |(go_at_call 62;refine(HTE.o _ (HS0.o.drewN _).drew).mono ?_;rintro e wT ⟨rfl,hs⟩;have HT:=h_ hs;clear hs;have kT:=HBL.o _ HT.o;have qf:=kT.frozen;have ql:=kT.lt;have qE:=kT.cell 16;have q16:wT.cell? ⟨b,16,none⟩=some (.pointer (some ⟨D.nb,0,none⟩)):=qE;have q17:wT.cell? ⟨b,17,none⟩=some (.int .i64 bo):=(by rw[←HBn.o];exact kT.cell 17);clear kT qE)
      |(go_at_call 61;refine(HB2.o _ HT.o).mono ?_;rintro e w1 ⟨rfl,q2,rfl⟩)
      |(go_at_call 63;refine(HEF.o _ bo (HSM.o _ (HT.o.drewN _))).mono ?_;rintro e w1 ⟨rfl,rfl⟩)
      |(go_at_call 64;refine(HEN2.o _ (HSM.o _ (HT.o.drewN _))).mono ?_;rintro e w1 ⟨rfl,hs⟩;have HZ:=h_ hs;clear hs))
     first|(go_ret;exact⟨rfl,HZ.o⟩)|exact bodyPost_end (results_none rfl _ _ _) rfl ⟨rfl,HZ.o⟩|exact bodyPost_ret (results_none rfl _ _ _) rfl ⟨rfl,HZ.o⟩
   ·by_cases hz:fo=0
    ·have dz:((fo:Int) != 0)=false:=by rw[hz];rfl
     have hyy:({ t with now:=some y,born:=bo }:PTh)=y0:=by rw[HE.o,if_neg (fun h9=>h9 hz),HBn.o];rfl
     subst hyy;clear HE hz;have HTO2:=h_ (fun w1 h9=>HTO.o w1 bo h9)
     go_enter Tryz.func39,Tryz.ntmps39;go_wp2_with (go_at_call 61;refine(HB1.o).mono ?_;rintro e w1 ⟨rfl,q1,rfl⟩);refine rT 5 ?_;simp only[sD,sE,sF,sG];repeat still_step
     refine wpStill_nil ?_;go_wp2_with (first
      |(go_at_call 62;refine(HTE.o _ (HS0.o.drewN _).drew).mono ?_;rintro e wT ⟨rfl,hs⟩;have HT:=h_ hs;clear hs;have kT:=HBL.o _ HT.o;have qf:=kT.frozen;have ql:=kT.lt;have qE:=kT.cell 16;have q16:wT.cell? ⟨b,16,none⟩=some (.pointer (some ⟨D.nb,0,none⟩)):=qE;have q17:wT.cell? ⟨b,17,none⟩=some (.int .i64 bo):=(by rw[←HBn.o];exact kT.cell 17);clear kT qE)
      |(go_at_call 61;refine(HB2.o _ HT.o).mono ?_;rintro e w1 ⟨rfl,q2,rfl⟩)
      |(go_at_call 63;refine(HEF.o _ bo (HSM.o _ (HT.o.drewN _))).mono ?_;rintro e w1 ⟨rfl,rfl⟩))
     first|(go_ret;exact⟨rfl,HTO2.o _ (HSM.o _ (HT.o.drewN _))⟩)|exact bodyPost_end (results_none rfl _ _ _) rfl ⟨rfl,HTO2.o _ (HSM.o _ (HT.o.drewN _))⟩|exact bodyPost_ret (results_none rfl _ _ _) rfl ⟨rfl,HTO2.o _ (HSM.o _ (HT.o.drewN _))⟩
    ·have dz:((fo:Int) != 0)=true:=by simp;omega
     have hyy:PTh.ended ({ t with now:=some y,born:=bo }:PTh) s y d p=y0:=by rw[HE.o,if_pos hz,HBn.o];rfl
     subst hyy;clear HE hz;have HEN2:=h_ (fun w1 h9=>HEN.o w1 bo h9)
     generalize PTh.ended ({ t with now:=some y,born:=bo }:PTh) s y d p=yy at HEN2 ⊢
     go_enter Tryz.func39,Tryz.ntmps39;go_wp2_with (go_at_call 61;refine(HB1.o).mono ?_;rintro e w1 ⟨rfl,q1,rfl⟩);refine rT 5 ?_;simp only[sD,sE,sF,sG];repeat still_step
     refine wpStill_nil ?_;go_wp2_with (first
      |(go_at_call 62;refine(HTE.o _ (HS0.o.drewN _).drew).mono ?_;rintro e wT ⟨rfl,hs⟩;have HT:=h_ hs;clear hs;have kT:=HBL.o _ HT.o;have qf:=kT.frozen;have ql:=kT.lt;have qE:=kT.cell 16;have q16:wT.cell? ⟨b,16,none⟩=some (.pointer (some ⟨D.nb,0,none⟩)):=qE;have q17:wT.cell? ⟨b,17,none⟩=some (.int .i64 bo):=(by rw[←HBn.o];exact kT.cell 17);clear kT qE)
      |(go_at_call 61;refine(HB2.o _ HT.o).mono ?_;rintro e w1 ⟨rfl,q2,rfl⟩)
      |(go_at_call 63;refine(HEF.o _ bo (HSM.o _ (HT.o.drewN _))).mono ?_;rintro e w1 ⟨rfl,rfl⟩)
      |(go_at_call 64;refine(HEN2.o _ (HSM.o _ (HT.o.drewN _))).mono ?_;rintro e w1 ⟨rfl,hs⟩;have HZ:=h_ hs;clear hs))
     first|(go_ret;exact⟨rfl,HZ.o⟩)|exact bodyPost_end (results_none rfl _ _ _) rfl ⟨rfl,HZ.o⟩|exact bodyPost_ret (results_none rfl _ _ _) rfl ⟨rfl,HZ.o⟩
  ·cases xb
   ·by_cases hz:fo=0
    ·have dz:((fo:Int) != 0)=false:=by rw[hz];rfl
     have hyy:({ t with now:=some y,born:=p }:PTh)=y0:=by rw[HE.o,if_neg (fun h9=>h9 hz)];rfl
     subst hyy;clear HE hz;have HTO2:=h_ (fun w1 h9=>HTO.o w1 p h9)
     go_enter Tryz.func39,Tryz.ntmps39;go_wp2_with (go_at_call 61;refine(HB1.o).mono ?_;rintro e w1 ⟨rfl,q1,rfl⟩);refine rT 5 ?_;simp only[sD,sE,sF,sG];repeat still_step
     refine wpStill_nil ?_;go_wp2_with (first
      |(go_at_call 62;refine(HTE.o _ (HS0.o.drewN _).drew).mono ?_;rintro e wT ⟨rfl,hs⟩;have HT:=h_ hs;clear hs;have kT:=HBL.o _ HT.o;have qf:=kT.frozen;have ql:=kT.lt;have qE:=kT.cell 16;have q16:wT.cell? ⟨b,16,none⟩=some (.pointer (some ⟨D.nb,0,none⟩)):=qE;have q17:wT.cell? ⟨b,17,none⟩=some (.int .i64 bo):=(by rw[←HBn.o];exact kT.cell 17);clear kT qE)
      |(go_at_call 61;refine(HB2.o _ HT.o).mono ?_;rintro e w1 ⟨rfl,q2,rfl⟩)
      |(go_at_call 63;refine(HEF.o _ p (HBO.o _ (HT.o.drewN _))).mono ?_;rintro e w1 ⟨rfl,rfl⟩))
     first|(go_ret;exact⟨rfl,HTO2.o _ (HBO.o _ (HT.o.drewN _))⟩)|exact bodyPost_end (results_none rfl _ _ _) rfl ⟨rfl,HTO2.o _ (HBO.o _ (HT.o.drewN _))⟩|exact bodyPost_ret (results_none rfl _ _ _) rfl ⟨rfl,HTO2.o _ (HBO.o _ (HT.o.drewN _))⟩
    ·have dz:((fo:Int) != 0)=true:=by simp;omega
     have hyy:PTh.ended ({ t with now:=some y,born:=p }:PTh) s y d p=y0:=by rw[HE.o,if_pos hz];rfl
     subst hyy;clear HE hz;have HEN2:=h_ (fun w1 h9=>HEN.o w1 p h9)
     generalize PTh.ended ({ t with now:=some y,born:=p }:PTh) s y d p=yy at HEN2 ⊢
     go_enter Tryz.func39,Tryz.ntmps39;go_wp2_with (go_at_call 61;refine(HB1.o).mono ?_;rintro e w1 ⟨rfl,q1,rfl⟩);refine rT 5 ?_;simp only[sD,sE,sF,sG];repeat still_step
     refine wpStill_nil ?_;go_wp2_with (first
      |(go_at_call 62;refine(HTE.o _ (HS0.o.drewN _).drew).mono ?_;rintro e wT ⟨rfl,hs⟩;have HT:=h_ hs;clear hs;have kT:=HBL.o _ HT.o;have qf:=kT.frozen;have ql:=kT.lt;have qE:=kT.cell 16;have q16:wT.cell? ⟨b,16,none⟩=some (.pointer (some ⟨D.nb,0,none⟩)):=qE;have q17:wT.cell? ⟨b,17,none⟩=some (.int .i64 bo):=(by rw[←HBn.o];exact kT.cell 17);clear kT qE)
      |(go_at_call 61;refine(HB2.o _ HT.o).mono ?_;rintro e w1 ⟨rfl,q2,rfl⟩)
      |(go_at_call 63;refine(HEF.o _ p (HBO.o _ (HT.o.drewN _))).mono ?_;rintro e w1 ⟨rfl,rfl⟩)
      |(go_at_call 64;refine(HEN2.o _ (HBO.o _ (HT.o.drewN _))).mono ?_;rintro e w1 ⟨rfl,hs⟩;have HZ:=h_ hs;clear hs))
     first|(go_ret;exact⟨rfl,HZ.o⟩)|exact bodyPost_end (results_none rfl _ _ _) rfl ⟨rfl,HZ.o⟩|exact bodyPost_ret (results_none rfl _ _ _) rfl ⟨rfl,HZ.o⟩
   ·by_cases hz:fo=0
    ·have dz:((fo:Int) != 0)=false:=by rw[hz];rfl
     have hyy:({ t with now:=some y,born:=bo }:PTh)=y0:=by rw[HE.o,if_neg (fun h9=>h9 hz),HBn.o];rfl
     subst hyy;clear HE hz;have HTO2:=h_ (fun w1 h9=>HTO.o w1 bo h9)
     go_enter Tryz.func39,Tryz.ntmps39;go_wp2_with (go_at_call 61;refine(HB1.o).mono ?_;rintro e w1 ⟨rfl,q1,rfl⟩);refine rT 5 ?_;simp only[sD,sE,sF,sG];repeat still_step
     refine wpStill_nil ?_;go_wp2_with (first
      |(go_at_call 62;refine(HTE.o _ (HS0.o.drewN _).drew).mono ?_;rintro e wT ⟨rfl,hs⟩;have HT:=h_ hs;clear hs;have kT:=HBL.o _ HT.o;have qf:=kT.frozen;have ql:=kT.lt;have qE:=kT.cell 16;have q16:wT.cell? ⟨b,16,none⟩=some (.pointer (some ⟨D.nb,0,none⟩)):=qE;have q17:wT.cell? ⟨b,17,none⟩=some (.int .i64 bo):=(by rw[←HBn.o];exact kT.cell 17);clear kT qE)
      |(go_at_call 61;refine(HB2.o _ HT.o).mono ?_;rintro e w1 ⟨rfl,q2,rfl⟩)
      |(go_at_call 63;refine(HEF.o _ bo (HSM.o _ (HT.o.drewN _))).mono ?_;rintro e w1 ⟨rfl,rfl⟩))
     first|(go_ret;exact⟨rfl,HTO2.o _ (HSM.o _ (HT.o.drewN _))⟩)|exact bodyPost_end (results_none rfl _ _ _) rfl ⟨rfl,HTO2.o _ (HSM.o _ (HT.o.drewN _))⟩|exact bodyPost_ret (results_none rfl _ _ _) rfl ⟨rfl,HTO2.o _ (HSM.o _ (HT.o.drewN _))⟩
    ·have dz:((fo:Int) != 0)=true:=by simp;omega
     have hyy:PTh.ended ({ t with now:=some y,born:=bo }:PTh) s y d p=y0:=by rw[HE.o,if_pos hz,HBn.o];rfl
     subst hyy;clear HE hz;have HEN2:=h_ (fun w1 h9=>HEN.o w1 bo h9)
     generalize PTh.ended ({ t with now:=some y,born:=bo }:PTh) s y d p=yy at HEN2 ⊢
     go_enter Tryz.func39,Tryz.ntmps39;go_wp2_with (go_at_call 61;refine(HB1.o).mono ?_;rintro e w1 ⟨rfl,q1,rfl⟩);refine rT 5 ?_;simp only[sD,sE,sF,sG];repeat still_step
     refine wpStill_nil ?_;go_wp2_with (first
      |(go_at_call 62;refine(HTE.o _ (HS0.o.drewN _).drew).mono ?_;rintro e wT ⟨rfl,hs⟩;have HT:=h_ hs;clear hs;have kT:=HBL.o _ HT.o;have qf:=kT.frozen;have ql:=kT.lt;have qE:=kT.cell 16;have q16:wT.cell? ⟨b,16,none⟩=some (.pointer (some ⟨D.nb,0,none⟩)):=qE;have q17:wT.cell? ⟨b,17,none⟩=some (.int .i64 bo):=(by rw[←HBn.o];exact kT.cell 17);clear kT qE)
      |(go_at_call 61;refine(HB2.o _ HT.o).mono ?_;rintro e w1 ⟨rfl,q2,rfl⟩)
      |(go_at_call 63;refine(HEF.o _ bo (HSM.o _ (HT.o.drewN _))).mono ?_;rintro e w1 ⟨rfl,rfl⟩)
      |(go_at_call 64;refine(HEN2.o _ (HSM.o _ (HT.o.drewN _))).mono ?_;rintro e w1 ⟨rfl,hs⟩;have HZ:=h_ hs;clear hs))
     first|(go_ret;exact⟨rfl,HZ.o⟩)|exact bodyPost_end (results_none rfl _ _ _) rfl ⟨rfl,HZ.o⟩|exact bodyPost_ret (results_none rfl _ _ _) rfl ⟨rfl,HZ.o⟩
 ·have d1:((st:Int)==1)=false:=by rw[beq_eq_false_iff_ne];omega
  have e0:t.tell s ⟨aw,⟨av,ah,ao⟩,ad,ae⟩ d p=t:=by
   unfold PTh.tell;rcases hK4 with k|k|k|k|k
   ·exact absurd k h1
   ·exact absurd k h2
   all_goals (rw[hst,k];rfl)
  rw[e0];have HZ:Hid (Sat ω (w.alloc (.cells #[.int .u64 aw,.int .u64 av,.bool ah,.int .i64 ao,.bool ad,.int .i64 ae] 100)) (thH b s t*(powH*F))):=h_ (thH_to HS0.o);clear h hb hb1 hst hK4 ho hjl h2 h1 e0 hfit hK;go_enter Tryz.func39,Tryz.ntmps39;go_wp2;first|(go_ret;exact⟨rfl,HZ.o⟩)|exact bodyPost_end (results_none rfl _ _ _) rfl ⟨rfl,HZ.o⟩|exact bodyPost_ret (results_none rfl _ _ _) rfl ⟨rfl,HZ.o⟩
theorem fin69 {W:World}{p:Nat}{A B C D E G H I J:Int}{A1 A2:Option Addr}{n1 n2 c1 c2:Nat}{S:ByteArray}{tmps:Array Value}(h2:tmps.getD 2 undef=.pointer (some ⟨p,0,none⟩))(hb:Blk W p 52 #[.int .i64 A,.int .i64 B,.int .i64 C,.bool false,.int .i64 D,.int .i64 E,.int .u64 G,.int .u64 H,.int .i64 I,.int .i64 J,.slice A1 n1 c1,.slice A2 n2 c2,.slice none 0 0,.string S])(Q:Ending→World→Prop)(hq:Q (.returned (.agg #[.int .i64 A,.int .i64 B,.int .i64 C,.bool false,.int .i64 D,.int .i64 E,.int .u64 G,.int .u64 H,.int .i64 I,.int .i64 J,.slice A1 n1 c1,.slice A2 n2 c2,.slice none 0 0,.string S])) W):
  bodyPost Tryz.prog Tryz.f69 Q Exit.ret { tmps:=tmps,defers:=[] } W:=by
 have kl:=hb.lt;have m0:=hb.c 0;have m1:=hb.c 1;have m2:=hb.c 2;have m3:=hb.c 3;have m4:=hb.c 4;have m5:=hb.c 5;have m6:=hb.c 6;have m7:=hb.c 7;have m8:=hb.c 8;have m9:=hb.c 9;have m10:=hb.c 10;have m11:=hb.c 11;have m12:=hb.c 12;have m13:=hb.c 13;have h2':tmps[2]?.getD undef=.pointer (some ⟨p,0,none⟩):=by simpa using h2
 refine bodyPost_ret (v:=.agg #[.int .i64 A,.int .i64 B,.int .i64 C,.bool false,.int .i64 D,.int .i64 E,.int .u64 G,.int .u64 H,.int .i64 I,.int .i64 J,.slice A1 n1 c1,.slice A2 n2 c2,.slice none 0 0,.string S]) ?_ rfl hq;simp[results,Tryz.results69,go_sem,h2',m0,m1,m2,m3,m4,m5,m6,m7,m8,m9,m10,m11,m12,m13]
def CopS (N:Nat)(CS:Array Value)(w:World):Prop:=∃u1 u2,Blk w N 52 ((CS.setIfInBounds 10 u1).setIfInBounds 11 u2)
theorem th_copied (ω w:World)(F:HP)(thread job try_ kind err begin stamp born ended:Nat)(sl:ByteArray)(A1 A2:Option Addr)(n1 c1 n2 c2:Nat)(l1 l2:List (Nat×Nat))(hn1:n1≤1000000)(hn2:n2≤1000000)(h:Sat ω w (row 54 2 (.slice A1 n1 c1) n1 (vS l1)*(row 54 2 (.slice A2 n2 c2) n2 (vS l2)*F))):
  Calls Tryz.prog 69 #[.agg #[.int .i64 thread,.int .i64 job,.int .i64 try_,.bool false,.int .i64 kind,.int .i64 err,.int .u64 begin,.int .u64 stamp,.int .i64 born,.int .i64 ended,.slice A1 n1 c1,.slice A2 n2 c2,.slice none 0 0,.string sl]] w fun e w'=>∃B1 d1 B2 d2,e=.returned (.agg #[.int .i64 thread,.int .i64 job,.int .i64 try_,.bool false,.int .i64 kind,.int .i64 err,.int .u64 begin,.int .u64 stamp,.int .i64 born,.int .i64 ended,.slice B1 n1 d1,.slice B2 n2 d2,.slice none 0 0,.string sl])∧Sat ω w' ((row 54 2 (.slice B1 n1 d1) n1 (vS l1)*row 54 2 (.slice B2 n2 d2) n2 (vS l2))*(row 54 2 (.slice A1 n1 c1) n1 (vS l1)*(row 54 2 (.slice A2 n2 c2) n2 (vS l2)*F))):=by
 obtain⟨N,hN⟩:∃N,w.heap.size=N:=⟨_,rfl⟩;obtain⟨R1,hR1⟩:∃R1:HP,R1=row 54 2 (.slice A1 n1 c1) n1 (vS l1):=⟨_,rfl⟩;obtain⟨R2,hR2⟩:∃R2:HP,R2=row 54 2 (.slice A2 n2 c2) n2 (vS l2):=⟨_,rfl⟩;have HC1:Hid (∀w1 G,Sat ω w1 (R1*G)→Calls Tryz.prog 106 #[.slice A1 n1 c1] w1 fun e w'=>∃B d,e=.returned (.slice B n1 d)∧Sat ω w' (row 54 2 (.slice B n1 d) n1 (vS l1)*(R1*G))):=h_ (fun w1 G h1=>by
  rw[hR1] at h1 ⊢;refine(cloneCell ω w1 G A1 n1 c1 (vS l1) h1 hn1 (vS_one _)).mono ?_;rintro e w2 ⟨B,d,rfl,h2⟩;exact⟨B,d,rfl,h2⟩)
 have HC2:Hid (∀w1 G,Sat ω w1 (R2*G)→Calls Tryz.prog 106 #[.slice A2 n2 c2] w1 fun e w'=>∃B d,e=.returned (.slice B n2 d)∧Sat ω w' (row 54 2 (.slice B n2 d) n2 (vS l2)*(R2*G))):=h_ (fun w1 G h1=>by
  rw[hR2] at h1 ⊢;refine(cloneCell ω w1 G A2 n2 c2 (vS l2) h1 hn2 (vS_one _)).mono ?_;rintro e w2 ⟨B,d,rfl,h2⟩;exact⟨B,d,rfl,h2⟩)
 have HC3:=h_ (fun w1=>Tryz.slices_Clone_int_nil 0 0 w1)
 rw[←hR1,←hR2] at h ⊢;have HX0:Hid (Sat ω ((w.alloc (.cells #[.int .i64 thread,.int .i64 job,.int .i64 try_,.bool false,.int .i64 kind,.int .i64 err,.int .u64 begin,.int .u64 stamp,.int .i64 born,.int .i64 ended,.slice A1 n1 c1,.slice A2 n2 c2,.slice none 0 0,.string sl] 52)).alloc (.cells #[.int .i64 0,.int .i64 0,.int .i64 0,.bool false,.int .i64 0,.int .i64 0,.int .u64 0,.int .u64 0,.int .i64 0,.int .i64 0,.slice none 0 0,.slice none 0 0,.slice none 0 0,.string ⟨#[]⟩] 52)) (R1*(bk N 52 #[.int .i64 thread,.int .i64 job,.int .i64 try_,.bool false,.int .i64 kind,.int .i64 err,.int .u64 begin,.int .u64 stamp,.int .i64 born,.int .i64 ended,.slice A1 n1 c1,.slice A2 n2 c2,.slice none 0 0,.string sl]*(bk (N+1) 52 #[.int .i64 0,.int .i64 0,.int .i64 0,.bool false,.int .i64 0,.int .i64 0,.int .u64 0,.int .u64 0,.int .i64 0,.int .i64 0,.slice none 0 0,.slice none 0 0,.slice none 0 0,.string ⟨#[]⟩]*(R2*F))))):=h_ (by
  have h1:=(h.new #[.int .i64 thread,.int .i64 job,.int .i64 try_,.bool false,.int .i64 kind,.int .i64 err,.int .u64 begin,.int .u64 stamp,.int .i64 born,.int .i64 ended,.slice A1 n1 c1,.slice A2 n2 c2,.slice none 0 0,.string sl] 52).new #[.int .i64 0,.int .i64 0,.int .i64 0,.bool false,.int .i64 0,.int .i64 0,.int .u64 0,.int .u64 0,.int .i64 0,.int .i64 0,.slice none 0 0,.slice none 0 0,.slice none 0 0,.string ⟨#[]⟩] 52;simp only[World.size_alloc] at h1;rw[hN] at h1;exact h1.perm (by ac_rfl))
 have HX1:=h_ (HX0.o.drewN 1);have hlN:w.heap.size<w.heap.size+1:=by omega
 have hlN2:w.heap.size<w.heap.size+1+1:=by omega
 have HB1:Hid (∀w1 R,Sat ω w1 (R*(R1*(bk N 52 #[.int .i64 thread,.int .i64 job,.int .i64 try_,.bool false,.int .i64 kind,.int .i64 err,.int .u64 begin,.int .u64 stamp,.int .i64 born,.int .i64 ended,.slice A1 n1 c1,.slice A2 n2 c2,.slice none 0 0,.string sl]*(bk (N+1) 52 #[.int .i64 0,.int .i64 0,.int .i64 0,.bool false,.int .i64 0,.int .i64 0,.int .u64 0,.int .u64 0,.int .i64 0,.int .i64 0,.slice none 0 0,.slice none 0 0,.slice none 0 0,.string ⟨#[]⟩]*(R2*F)))))→Blk w1 N 52 #[.int .i64 thread,.int .i64 job,.int .i64 try_,.bool false,.int .i64 kind,.int .i64 err,.int .u64 begin,.int .u64 stamp,.int .i64 born,.int .i64 ended,.slice A1 n1 c1,.slice A2 n2 c2,.slice none 0 0,.string sl]):=h_ (fun w1 R h1=>h1.right.right.blk)
 have HB2:Hid (∀w1 Ra Rb,Sat ω w1 (Ra*(R2*(Rb*(R1*(bk N 52 #[.int .i64 thread,.int .i64 job,.int .i64 try_,.bool false,.int .i64 kind,.int .i64 err,.int .u64 begin,.int .u64 stamp,.int .i64 born,.int .i64 ended,.slice A1 n1 c1,.slice A2 n2 c2,.slice none 0 0,.string sl]*(bk (N+1) 52 #[.int .i64 0,.int .i64 0,.int .i64 0,.bool false,.int .i64 0,.int .i64 0,.int .u64 0,.int .u64 0,.int .i64 0,.int .i64 0,.slice none 0 0,.slice none 0 0,.slice none 0 0,.string ⟨#[]⟩]*F))))))→Blk w1 N 52 #[.int .i64 thread,.int .i64 job,.int .i64 try_,.bool false,.int .i64 kind,.int .i64 err,.int .u64 begin,.int .u64 stamp,.int .i64 born,.int .i64 ended,.slice A1 n1 c1,.slice A2 n2 c2,.slice none 0 0,.string sl]):=h_ (fun w1 Ra Rb h1=>h1.right.right.right.right.blk)
 have HP2:Hid (∀w1 R,Sat ω w1 (R*(R1*(bk N 52 #[.int .i64 thread,.int .i64 job,.int .i64 try_,.bool false,.int .i64 kind,.int .i64 err,.int .u64 begin,.int .u64 stamp,.int .i64 born,.int .i64 ended,.slice A1 n1 c1,.slice A2 n2 c2,.slice none 0 0,.string sl]*(bk (N+1) 52 #[.int .i64 0,.int .i64 0,.int .i64 0,.bool false,.int .i64 0,.int .i64 0,.int .u64 0,.int .u64 0,.int .i64 0,.int .i64 0,.slice none 0 0,.slice none 0 0,.slice none 0 0,.string ⟨#[]⟩]*(R2*F)))))→Sat ω w1 (R2*(R*(R1*(bk N 52 #[.int .i64 thread,.int .i64 job,.int .i64 try_,.bool false,.int .i64 kind,.int .i64 err,.int .u64 begin,.int .u64 stamp,.int .i64 born,.int .i64 ended,.slice A1 n1 c1,.slice A2 n2 c2,.slice none 0 0,.string sl]*(bk (N+1) 52 #[.int .i64 0,.int .i64 0,.int .i64 0,.bool false,.int .i64 0,.int .i64 0,.int .u64 0,.int .u64 0,.int .i64 0,.int .i64 0,.slice none 0 0,.slice none 0 0,.slice none 0 0,.string ⟨#[]⟩]*F)))))):=h_ (fun w1 R h1=>h1.perm (by ac_rfl))
 have HFI:Hid (∀w1 B1 d1 B2 d2,Sat ω w1 (row 54 2 (.slice B2 n2 d2) n2 (vS l2)*(R2*(row 54 2 (.slice B1 n1 d1) n1 (vS l1)*(R1*(bk N 52 #[.int .i64 thread,.int .i64 job,.int .i64 try_,.bool false,.int .i64 kind,.int .i64 err,.int .u64 begin,.int .u64 stamp,.int .i64 born,.int .i64 ended,.slice A1 n1 c1,.slice A2 n2 c2,.slice none 0 0,.string sl]*(bk (N+1) 52 #[.int .i64 0,.int .i64 0,.int .i64 0,.bool false,.int .i64 0,.int .i64 0,.int .u64 0,.int .u64 0,.int .i64 0,.int .i64 0,.slice none 0 0,.slice none 0 0,.slice none 0 0,.string ⟨#[]⟩]*F))))))→Sat ω (((w1.setCell ⟨N,10,none⟩ (.slice B1 n1 d1)).setCell ⟨N,11,none⟩ (.slice B2 n2 d2)).setCell ⟨N,12,none⟩ (.slice none 0 0)) (bk (N+1) 52 #[.int .i64 0,.int .i64 0,.int .i64 0,.bool false,.int .i64 0,.int .i64 0,.int .u64 0,.int .u64 0,.int .i64 0,.int .i64 0,.slice none 0 0,.slice none 0 0,.slice none 0 0,.string ⟨#[]⟩]*(bk N 52 #[.int .i64 thread,.int .i64 job,.int .i64 try_,.bool false,.int .i64 kind,.int .i64 err,.int .u64 begin,.int .u64 stamp,.int .i64 born,.int .i64 ended,.slice B1 n1 d1,.slice B2 n2 d2,.slice none 0 0,.string sl]*((row 54 2 (.slice B1 n1 d1) n1 (vS l1)*row 54 2 (.slice B2 n2 d2) n2 (vS l2))*(R1*(R2*F)))))):=h_ (fun w1 B1 d1 B2 d2 h1=>by
  have h2:Sat ω w1 (bk N 52 #[.int .i64 thread,.int .i64 job,.int .i64 try_,.bool false,.int .i64 kind,.int .i64 err,.int .u64 begin,.int .u64 stamp,.int .i64 born,.int .i64 ended,.slice A1 n1 c1,.slice A2 n2 c2,.slice none 0 0,.string sl]*(bk (N+1) 52 #[.int .i64 0,.int .i64 0,.int .i64 0,.bool false,.int .i64 0,.int .i64 0,.int .u64 0,.int .u64 0,.int .i64 0,.int .i64 0,.slice none 0 0,.slice none 0 0,.slice none 0 0,.string ⟨#[]⟩]*((row 54 2 (.slice B1 n1 d1) n1 (vS l1)*row 54 2 (.slice B2 n2 d2) n2 (vS l2))*(R1*(R2*F))))):=h1.perm (by ac_rfl)
  exact(((h2.put 10 (.slice B1 n1 d1) (cs':=#[.int .i64 thread,.int .i64 job,.int .i64 try_,.bool false,.int .i64 kind,.int .i64 err,.int .u64 begin,.int .u64 stamp,.int .i64 born,.int .i64 ended,.slice B1 n1 d1,.slice A2 n2 c2,.slice none 0 0,.string sl]) rfl).put 11 (.slice B2 n2 d2) (cs':=#[.int .i64 thread,.int .i64 job,.int .i64 try_,.bool false,.int .i64 kind,.int .i64 err,.int .u64 begin,.int .u64 stamp,.int .i64 born,.int .i64 ended,.slice B1 n1 d1,.slice B2 n2 d2,.slice none 0 0,.string sl]) rfl).put 12 (.slice none 0 0) (cs':=#[.int .i64 thread,.int .i64 job,.int .i64 try_,.bool false,.int .i64 kind,.int .i64 err,.int .u64 begin,.int .u64 stamp,.int .i64 born,.int .i64 ended,.slice B1 n1 d1,.slice B2 n2 d2,.slice none 0 0,.string sl]) rfl).swap)
 have HP14:Hid (∀w1 B1 d1 B2 d2 G,Sat ω w1 (bk (N+1) 52 #[.int .i64 0,.int .i64 0,.int .i64 0,.bool false,.int .i64 0,.int .i64 0,.int .u64 0,.int .u64 0,.int .i64 0,.int .i64 0,.slice none 0 0,.slice none 0 0,.slice none 0 0,.string ⟨#[]⟩]*G)→Sat ω ((((((((((((((w1.setCell ⟨N+1,0,none⟩ (.int .i64 thread)).setCell ⟨N+1,1,none⟩ (.int .i64 job)).setCell ⟨N+1,2,none⟩ (.int .i64 try_)).setCell ⟨N+1,3,none⟩ (.bool false)).setCell ⟨N+1,4,none⟩ (.int .i64 kind)).setCell ⟨N+1,5,none⟩ (.int .i64 err)).setCell ⟨N+1,6,none⟩ (.int .u64 begin)).setCell ⟨N+1,7,none⟩ (.int .u64 stamp)).setCell ⟨N+1,8,none⟩ (.int .i64 born)).setCell ⟨N+1,9,none⟩ (.int .i64 ended)).setCell ⟨N+1,10,none⟩ (.slice B1 n1 d1)).setCell ⟨N+1,11,none⟩ (.slice B2 n2 d2)).setCell ⟨N+1,12,none⟩ (.slice none 0 0)).setCell ⟨N+1,13,none⟩ (.string sl)) (bk (N+1) 52 #[.int .i64 thread,.int .i64 job,.int .i64 try_,.bool false,.int .i64 kind,.int .i64 err,.int .u64 begin,.int .u64 stamp,.int .i64 born,.int .i64 ended,.slice B1 n1 d1,.slice B2 n2 d2,.slice none 0 0,.string sl]*G)):=h_ (fun w1 B1 d1 B2 d2 G h1=>put14 (.int .i64 thread) (.int .i64 job) (.int .i64 try_) (.bool false) (.int .i64 kind) (.int .i64 err) (.int .u64 begin) (.int .u64 stamp) (.int .i64 born) (.int .i64 ended) (.slice B1 n1 d1) (.slice B2 n2 d2) (.slice none 0 0) (.string sl) h1)
 go_enter Tryz.func69,Tryz.ntmps69;go_upto_region 1 with(fail)
 go_cut [] from 3 (fun wx=>∃B1 d1 B2 d2,Hid (Sat ω wx (bk (N+1) 52 #[.int .i64 0,.int .i64 0,.int .i64 0,.bool false,.int .i64 0,.int .i64 0,.int .u64 0,.int .u64 0,.int .i64 0,.int .i64 0,.slice none 0 0,.slice none 0 0,.slice none 0 0,.string ⟨#[]⟩]*(bk N 52 #[.int .i64 thread,.int .i64 job,.int .i64 try_,.bool false,.int .i64 kind,.int .i64 err,.int .u64 begin,.int .u64 stamp,.int .i64 born,.int .i64 ended,.slice B1 n1 d1,.slice B2 n2 d2,.slice none 0 0,.string sl]*((row 54 2 (.slice B1 n1 d1) n1 (vS l1)*row 54 2 (.slice B2 n2 d2) n2 (vS l2))*(R1*(R2*F)))))))
 case first =>
  have kX:=HX1.o.right.blk;have lX:=kX.lt;have fX:=kX.frozen;have x10:((w.alloc (.cells #[.int .i64 thread,.int .i64 job,.int .i64 try_,.bool false,.int .i64 kind,.int .i64 err,.int .u64 begin,.int .u64 stamp,.int .i64 born,.int .i64 ended,.slice A1 n1 c1,.slice A2 n2 c2,.slice none 0 0,.string sl] 52)).alloc (.cells #[.int .i64 0,.int .i64 0,.int .i64 0,.bool false,.int .i64 0,.int .i64 0,.int .u64 0,.int .u64 0,.int .i64 0,.int .i64 0,.slice none 0 0,.slice none 0 0,.slice none 0 0,.string ⟨#[]⟩] 52)).drew.cell? ⟨N,10,none⟩=some (.slice A1 n1 c1):=kX.cell 10;have x11:((w.alloc (.cells #[.int .i64 thread,.int .i64 job,.int .i64 try_,.bool false,.int .i64 kind,.int .i64 err,.int .u64 begin,.int .u64 stamp,.int .i64 born,.int .i64 ended,.slice A1 n1 c1,.slice A2 n2 c2,.slice none 0 0,.string sl] 52)).alloc (.cells #[.int .i64 0,.int .i64 0,.int .i64 0,.bool false,.int .i64 0,.int .i64 0,.int .u64 0,.int .u64 0,.int .i64 0,.int .i64 0,.slice none 0 0,.slice none 0 0,.slice none 0 0,.string ⟨#[]⟩] 52)).drew.cell? ⟨N,11,none⟩=some (.slice A2 n2 c2):=kX.cell 11;have x12:((w.alloc (.cells #[.int .i64 thread,.int .i64 job,.int .i64 try_,.bool false,.int .i64 kind,.int .i64 err,.int .u64 begin,.int .u64 stamp,.int .i64 born,.int .i64 ended,.slice A1 n1 c1,.slice A2 n2 c2,.slice none 0 0,.string sl] 52)).alloc (.cells #[.int .i64 0,.int .i64 0,.int .i64 0,.bool false,.int .i64 0,.int .i64 0,.int .u64 0,.int .u64 0,.int .i64 0,.int .i64 0,.slice none 0 0,.slice none 0 0,.slice none 0 0,.string ⟨#[]⟩] 52)).drew.cell? ⟨N,12,none⟩=some (.slice none 0 0):=kX.cell 12;refine wp_region_noPanic ?_;refine wp_region_held_drew (S:=CopS N #[.int .i64 thread,.int .i64 job,.int .i64 try_,.bool false,.int .i64 kind,.int .i64 err,.int .u64 begin,.int .u64 stamp,.int .i64 born,.int .i64 ended,.slice A1 n1 c1,.slice A2 n2 c2,.slice none 0 0,.string sl]) (by kernel_rfl) ⟨.slice A1 n1 c1,.slice A2 n2 c2,HX1.o.right.blk⟩ (fun hh0=>?_)
  refine tH 0 ?_ rfl ?_ (tH 3 ?_ rfl ?_ (tH 6 ?_ rfl ?_ (tH 7 ?_ rfl ?_ ?_)));all_goals (try (
   intro w hSw;obtain⟨y1,y2,hS2⟩:=hSw;have jl:=hS2.lt;have j12:=hS2.c 12;try simp only[sP]
   go_simp<;>(try with_reducible rfl)))
  try simp only[sP]
  refine rH [1,4] ?_;refine cH rfl (fun K hK=>?_) ?_
  ·go_simp;(try go_wp2_with fail);refine hK.q ?_ fun hh1=>?_
   ·exact⟨.slice A1 n1 c1,.slice A2 n2 c2,HX1.o.right.blk⟩
   try simp only[sP]
   refine rH [2,4] ?_;refine cH rfl (fun K hK=>?_) ?_
   ·go_simp;go_at_call 106;refine(HC1.o _ _ HX1.o).mono ?_;rintro e wA ⟨B1,d1,rfl,hs⟩;have HA:=h_ hs;have kA:=HB1.o _ _ hs;have lA:=kA.lt;have fA:=kA.frozen;have p10:=kA.c 10;have p11:=kA.c 11;have p12:=kA.c 12;(try go_wp2_with fail);refine hK.q ?_ fun hh2=>?_
    ·exact⟨.slice A1 n1 c1,.slice A2 n2 c2,HB1.o _ _ HA.o⟩
    try simp only[sP]
    refine oH 4 rfl fun K hK=>?_
    go_simp;(try go_wp2_with fail);refine hK.q ?_ fun hh3=>?_
    ·exact⟨.slice A1 n1 c1,.slice A2 n2 c2,HB1.o _ _ HA.o⟩
    try simp only[sP]
    refine tH 9 ?_ rfl ?_ ?_;all_goals (try (
     intro w hSw;obtain⟨y1,y2,hS2⟩:=hSw;have jl:=hS2.lt;have j12:=hS2.c 12;go_simp<;>(try with_reducible rfl)))
    try simp only[sP]
    refine oH 5 rfl fun K hK=>?_
    go_simp;go_at_call 106;refine(HC2.o _ _ (HP2.o _ _ HA.o)).mono ?_;rintro e wB ⟨B2,d2,rfl,hs⟩;have HB:=h_ hs;have kB:=HB2.o _ _ _ hs;have lB:=kB.lt;have fB:=kB.frozen;have r10:=kB.c 10;have r11:=kB.c 11;have r12:=kB.c 12;(try go_wp2_with fail);refine hK.q ?_ fun hh4=>?_
    ·exact⟨.slice A1 n1 c1,.slice A2 n2 c2,HB2.o _ _ _ HB.o⟩
    try simp only[sP]
    refine oH 8 rfl fun K hK=>?_
    go_simp;go_at_call 107;refine(HC3.o _).mono ?_;rintro e wQ ⟨rfl,rfl⟩;(try go_wp2_with fail);refine hK.q ?_ fun hh5=>?_
    ·exact⟨.slice A1 n1 c1,.slice A2 n2 c2,HB2.o _ _ _ HB.o⟩
    try simp only[sP]
    refine oH 10 rfl fun K hK=>?_
    go_simp;(try go_wp2_with fail);refine hK.q ?_ fun hh6=>?_
    ·exact⟨.slice B1 n1 d1,.slice A2 n2 c2,(HB2.o _ _ _ HB.o).set_ 10 (.slice B1 n1 d1)⟩
    try simp only[sP]
    refine tH 11 ?_ rfl ?_ ?_;all_goals (try (
     intro w hSw;obtain⟨y1,y2,hS2⟩:=hSw;have jl:=hS2.lt;have j12:=hS2.c 12;go_simp<;>(try with_reducible rfl)))
    try simp only[sP]
    refine oH 12 rfl fun K hK=>?_
    go_simp;(try go_wp2_with fail);refine hK.q ?_ fun hh7=>?_
    ·exact⟨.slice B1 n1 d1,.slice B2 n2 d2,((HB2.o _ _ _ HB.o).set_ 10 (.slice B1 n1 d1)).set_ 11 (.slice B2 n2 d2)⟩
    try simp only[sP]
    refine tH 13 ?_ rfl ?_ ?_;all_goals (try (
     intro w hSw;obtain⟨y1,y2,hS2⟩:=hSw;have jl:=hS2.lt;have j12:=hS2.c 12;go_simp<;>(try with_reducible rfl)))
    try simp only[sP]
    refine oH 14 rfl fun K hK=>?_
    go_simp;(try go_wp2_with fail);refine hK.q ?_ fun hh8=>?_
    ·exact⟨.slice B1 n1 d1,.slice B2 n2 d2,(((HB2.o _ _ _ HB.o).set_ 10 (.slice B1 n1 d1)).set_ 11 (.slice B2 n2 d2)).set_ 12 (.slice none 0 0)⟩
    try simp only[sP]
    refine dN ?_;go_wp2_with fail;go_meet;exact⟨B1,d1,B2,d2,HFI.o _ _ _ _ _ HB.o⟩
   refine nH rfl fun K hK=>?_
   ·go_simp;(try go_wp2_with fail);refine hK.q ?_ fun hh2=>?_
    ·exact⟨.slice A1 n1 c1,.slice A2 n2 c2,HX1.o.right.blk⟩
    try simp only[sP]
    refine oH 2 rfl fun K hK=>?_
    go_simp;go_at_call 106;refine(HC1.o _ _ HX1.o).mono ?_;rintro e wA ⟨B1,d1,rfl,hs⟩;have HA:=h_ hs;have kA:=HB1.o _ _ hs;have lA:=kA.lt;have fA:=kA.frozen;have p10:=kA.c 10;have p11:=kA.c 11;have p12:=kA.c 12;(try go_wp2_with fail);refine hK.q ?_ fun hh3=>?_
    ·exact⟨.slice A1 n1 c1,.slice A2 n2 c2,HB1.o _ _ HA.o⟩
    try simp only[sP]
    refine tH 9 ?_ rfl ?_ ?_;all_goals (try (
     intro w hSw;obtain⟨y1,y2,hS2⟩:=hSw;have jl:=hS2.lt;have j12:=hS2.c 12;go_simp<;>(try with_reducible rfl)))
    try simp only[sP]
    refine oH 5 rfl fun K hK=>?_
    go_simp;go_at_call 106;refine(HC2.o _ _ (HP2.o _ _ HA.o)).mono ?_;rintro e wB ⟨B2,d2,rfl,hs⟩;have HB:=h_ hs;have kB:=HB2.o _ _ _ hs;have lB:=kB.lt;have fB:=kB.frozen;have r10:=kB.c 10;have r11:=kB.c 11;have r12:=kB.c 12;(try go_wp2_with fail);refine hK.q ?_ fun hh4=>?_
    ·exact⟨.slice A1 n1 c1,.slice A2 n2 c2,HB2.o _ _ _ HB.o⟩
    try simp only[sP]
    refine oH 8 rfl fun K hK=>?_
    go_simp;go_at_call 107;refine(HC3.o _).mono ?_;rintro e wQ ⟨rfl,rfl⟩;(try go_wp2_with fail);refine hK.q ?_ fun hh5=>?_
    ·exact⟨.slice A1 n1 c1,.slice A2 n2 c2,HB2.o _ _ _ HB.o⟩
    try simp only[sP]
    refine oH 10 rfl fun K hK=>?_
    go_simp;(try go_wp2_with fail);refine hK.q ?_ fun hh6=>?_
    ·exact⟨.slice B1 n1 d1,.slice A2 n2 c2,(HB2.o _ _ _ HB.o).set_ 10 (.slice B1 n1 d1)⟩
    try simp only[sP]
    refine tH 11 ?_ rfl ?_ ?_;all_goals (try (
     intro w hSw;obtain⟨y1,y2,hS2⟩:=hSw;have jl:=hS2.lt;have j12:=hS2.c 12;go_simp<;>(try with_reducible rfl)))
    try simp only[sP]
    refine oH 12 rfl fun K hK=>?_
    go_simp;(try go_wp2_with fail);refine hK.q ?_ fun hh7=>?_
    ·exact⟨.slice B1 n1 d1,.slice B2 n2 d2,((HB2.o _ _ _ HB.o).set_ 10 (.slice B1 n1 d1)).set_ 11 (.slice B2 n2 d2)⟩
    try simp only[sP]
    refine tH 13 ?_ rfl ?_ ?_;all_goals (try (
     intro w hSw;obtain⟨y1,y2,hS2⟩:=hSw;have jl:=hS2.lt;have j12:=hS2.c 12;go_simp<;>(try with_reducible rfl)))
    try simp only[sP]
    refine oH 14 rfl fun K hK=>?_
    go_simp;(try go_wp2_with fail);refine hK.q ?_ fun hh8=>?_
    ·exact⟨.slice B1 n1 d1,.slice B2 n2 d2,(((HB2.o _ _ _ HB.o).set_ 10 (.slice B1 n1 d1)).set_ 11 (.slice B2 n2 d2)).set_ 12 (.slice none 0 0)⟩
    try simp only[sP]
    refine dN ?_;go_wp2_with fail;go_meet;exact⟨B1,d1,B2,d2,HFI.o _ _ _ _ _ HB.o⟩
  refine nH rfl fun K hK=>?_
  ·go_simp;(try go_wp2_with fail);refine hK.q ?_ fun hh1=>?_
   ·exact⟨.slice A1 n1 c1,.slice A2 n2 c2,HX1.o.right.blk⟩
   try simp only[sP]
   refine oH 1 rfl fun K hK=>?_
   go_simp;(try go_wp2_with fail);refine hK.q ?_ fun hh2=>?_
   ·exact⟨.slice A1 n1 c1,.slice A2 n2 c2,HX1.o.right.blk⟩
   try simp only[sP]
   refine oH 2 rfl fun K hK=>?_
   go_simp;go_at_call 106;refine(HC1.o _ _ HX1.o).mono ?_;rintro e wA ⟨B1,d1,rfl,hs⟩;have HA:=h_ hs;have kA:=HB1.o _ _ hs;have lA:=kA.lt;have fA:=kA.frozen;have p10:=kA.c 10;have p11:=kA.c 11;have p12:=kA.c 12;(try go_wp2_with fail);refine hK.q ?_ fun hh3=>?_
   ·exact⟨.slice A1 n1 c1,.slice A2 n2 c2,HB1.o _ _ HA.o⟩
   try simp only[sP]
   refine tH 9 ?_ rfl ?_ ?_;all_goals (try (
    intro w hSw;obtain⟨y1,y2,hS2⟩:=hSw;have jl:=hS2.lt;have j12:=hS2.c 12;go_simp<;>(try with_reducible rfl)))
   try simp only[sP]
   refine oH 5 rfl fun K hK=>?_
   go_simp;go_at_call 106;refine(HC2.o _ _ (HP2.o _ _ HA.o)).mono ?_;rintro e wB ⟨B2,d2,rfl,hs⟩;have HB:=h_ hs;have kB:=HB2.o _ _ _ hs;have lB:=kB.lt;have fB:=kB.frozen;have r10:=kB.c 10;have r11:=kB.c 11;have r12:=kB.c 12;(try go_wp2_with fail);refine hK.q ?_ fun hh4=>?_
   ·exact⟨.slice A1 n1 c1,.slice A2 n2 c2,HB2.o _ _ _ HB.o⟩
   try simp only[sP]
   refine oH 8 rfl fun K hK=>?_
   go_simp;go_at_call 107;refine(HC3.o _).mono ?_;rintro e wQ ⟨rfl,rfl⟩;(try go_wp2_with fail);refine hK.q ?_ fun hh5=>?_
   ·exact⟨.slice A1 n1 c1,.slice A2 n2 c2,HB2.o _ _ _ HB.o⟩
   try simp only[sP]
   refine oH 10 rfl fun K hK=>?_
   go_simp;(try go_wp2_with fail);refine hK.q ?_ fun hh6=>?_
   ·exact⟨.slice B1 n1 d1,.slice A2 n2 c2,(HB2.o _ _ _ HB.o).set_ 10 (.slice B1 n1 d1)⟩
   try simp only[sP]
   refine tH 11 ?_ rfl ?_ ?_;all_goals (try (
    intro w hSw;obtain⟨y1,y2,hS2⟩:=hSw;have jl:=hS2.lt;have j12:=hS2.c 12;go_simp<;>(try with_reducible rfl)))
   try simp only[sP]
   refine oH 12 rfl fun K hK=>?_
   go_simp;(try go_wp2_with fail);refine hK.q ?_ fun hh7=>?_
   ·exact⟨.slice B1 n1 d1,.slice B2 n2 d2,((HB2.o _ _ _ HB.o).set_ 10 (.slice B1 n1 d1)).set_ 11 (.slice B2 n2 d2)⟩
   try simp only[sP]
   refine tH 13 ?_ rfl ?_ ?_;all_goals (try (
    intro w hSw;obtain⟨y1,y2,hS2⟩:=hSw;have jl:=hS2.lt;have j12:=hS2.c 12;go_simp<;>(try with_reducible rfl)))
   try simp only[sP]
   refine oH 14 rfl fun K hK=>?_
   go_simp;(try go_wp2_with fail);refine hK.q ?_ fun hh8=>?_
   ·exact⟨.slice B1 n1 d1,.slice B2 n2 d2,(((HB2.o _ _ _ HB.o).set_ 10 (.slice B1 n1 d1)).set_ 11 (.slice B2 n2 d2)).set_ 12 (.slice none 0 0)⟩
   try simp only[sP]
   refine dN ?_;go_wp2_with fail;go_meet;exact⟨B1,d1,B2,d2,HFI.o _ _ _ _ _ HB.o⟩
 case rest =>
  obtain⟨B1,d1,B2,d2,HW⟩:=hcut;have kN:=HW.o.right.blk;have kM:=HW.o.blk;have lN:=kN.lt;have lM:=kM.lt;have fM:=kM.frozen;have a0:=kN.c 0;have a1:=kN.c 1;have a2:=kN.c 2;have a3:=kN.c 3;have a4:=kN.c 4;have a5:=kN.c 5;have a6:=kN.c 6;have a7:=kN.c 7;have a8:=kN.c 8;have a9:=kN.c 9;have a10:=kN.c 10;have a11:=kN.c 11;have a12:=kN.c 12;have a13:=kN.c 13;have z0:=kM.c 0;have z1:=kM.c 1;have z2:=kM.c 2;have z3:=kM.c 3;have z4:=kM.c 4;have z5:=kM.c 5;have z6:=kM.c 6;have z7:=kM.c 7;have z8:=kM.c 8;have z9:=kM.c 9;have z10:=kM.c 10;have z11:=kM.c 11;have z12:=kM.c 12;have z13:=kM.c 13;have HZ:=h_ (HP14.o _ B1 d1 B2 d2 _ HW.o);go_wp2;refine fin69 ?_ HZ.o.blk _ ?_
  ·simp
  ·exact⟨B1,d1,B2,d2,rfl,HZ.o.right.right⟩
theorem reV_one (l:List PRe):∀u∈l.flatMap reV,u.oneCell'=true:=by
 intro u hu;obtain⟨r,_,hr⟩:=List.mem_flatMap.1 hu;simp only[reV,List.mem_cons,List.not_mem_nil,or_false] at hr;rcases hr with rfl|rfl|rfl|rfl<;>rfl
theorem th_results (ω w:World)(F:HP)(b:Nat)(s:PSt)(t:PTh)(h:Sat ω w (thH b s t*F))(hn:t.results.length≤1000000):
  Calls Tryz.prog 44 #[.pointer (some ⟨b,0,none⟩)] w (RetR ω (thH b s t*F) 66 4 t.results.length (t.results.flatMap reV)):=by
 obtain⟨D,h⟩:=thH_of h;have hb:=thX_blk h;have lt:=hb.lt;have hr:=thX_res h;obtain⟨A,c,hA⟩:=hr.rowForm;have k20:w.cell? ⟨b,20,none⟩=some (.slice A t.results.length c):=by rw[←hA];exact hb.cell 20
 have HC:Hid (Calls Tryz.prog 72 #[.slice A t.results.length c] w (RetR ω (thH b s t*F) 66 4 t.results.length (t.results.flatMap reV))):=h_ (by
  rw[hA] at hr;refine(cloneResult ω w _ A t.results.length c (t.results.flatMap reV) hr hn (reV_one _)).mono ?_;rintro e w2 ⟨B,d,rfl,h2⟩;refine⟨B,d,rfl,?_⟩;rw[←hA] at h2;have h3:Sat ω w2 (thX b s t D t.job*(row 66 4 (.slice B t.results.length d) t.results.length (t.results.flatMap reV)*F)):=thX_unres (h2.perm (by ac_rfl))
  exact(thH_to h3).swap)
 generalize t.results.length=n at *
 clear h hb hr;go_enter Tryz.func44,Tryz.ntmps44;go_wp2_with (go_at_call 72;refine(HC.o).mono ?_;rintro e w1 ⟨B,d,rfl,hs⟩;have HZ:=h_ hs;clear hs);go_ret;exact⟨_,_,rfl,HZ.o⟩
theorem toVs_zip:∀(ps:List (Value×Value)) (ts:List PTo),toVs ps ts=(ps.zip ts).flatMap fun x=>toV x.1 x.2
 | [],_=>rfl
 |_::_,[]=>rfl
 |p::ps,t::ts=>by
  show toV p t++toVs ps ts=_
  rw[toVs_zip ps ts];rfl
theorem toAll_at:∀(ps:List (Value×Value)) (ts:List PTo),ps.length=ts.length→∀k (hk:k<ts.length),∃q R,ps[k]?=some q∧toAll ps ts=toH q ts[k]*R
 | [],[],_,k,hk=>by simp at hk
 |p::ps,t::ts,h,0,_=>⟨p,toAll ps ts,rfl,rfl⟩
 |p::ps,t::ts,h,k+1,hk=>by
  obtain⟨q,R,h1,h2⟩:=toAll_at ps ts (by simpa using h) k (by simpa using hk)
  refine⟨q,toH p t*R,by simpa using h1,?_⟩
  show toH p t*toAll ps ts=_
  rw[h2];simp only[List.getElem_cons_succ];ac_rfl
theorem thX_pastAt {ω w:World}{F:HP}{b:Nat}{s:PSt}{t:PTh}{D:ThD}(h:Sat ω w (thX b s t D t.job*F)){k:Nat}(hk:k<t.past.length):
  ∃g A1 c1 A2 c2 R,D.pv.ownBlock=some g∧(∃c,D.pv=.slice (some ⟨g,0,none⟩) t.past.length c)∧g<w.heap.size∧(∀j,j<14→w.cell? ⟨g,k*14+j,none⟩=(toV (.slice A1 t.past[k].reads.length c1,.slice A2 t.past[k].cells.length c2) t.past[k])[j]?) ∧
   thX b s t D t.job=toH (.slice A1 t.past[k].reads.length c1,.slice A2 t.past[k].cells.length c2) t.past[k]*R:=by
 obtain⟨h1,h2⟩:=thX_past h;obtain⟨q,R,h3,h4⟩:=toAll_at D.ps t.past h1 k hk;obtain⟨q1,q2⟩:=q;have e:thX b s t D t.job=toH (q1,q2) t.past[k]*(bk b 138 (thC s t D t.job)*(nowH s D.nb t.now*(thJ t.jobs D*(fact (D.ps.length=t.past.length)*(row 52 14 D.pv t.past.length (toVs D.ps t.past)*(R*(row 66 4 D.rv t.results.length (t.results.flatMap reV)*bk D.lb 188 #[.slice none 0 0]))))))):=by
  unfold thX thT;rw[h4];ac_rfl
 have h5:Sat ω w (row 54 2 q1 t.past[k].reads.length (vS t.past[k].reads)*(row 54 2 q2 t.past[k].cells.length (vS t.past[k].cells)*((bk b 138 (thC s t D t.job)*(nowH s D.nb t.now*(thJ t.jobs D*(fact (D.ps.length=t.past.length)*(row 52 14 D.pv t.past.length (toVs D.ps t.past)*(R*(row 66 4 D.rv t.results.length (t.results.flatMap reV)*bk D.lb 188 #[.slice none 0 0])))))))*F))):=h.perm (by rw[e];unfold toH;ac_rfl)
 obtain⟨A1,c1,rfl⟩:=h5.rowForm;obtain⟨A2,c2,rfl⟩:=h5.right.rowForm;obtain⟨A,c,hpv⟩:=h2.rowForm;rw[hpv] at h2;have hzl:(D.ps.zip t.past).length=t.past.length:=by simp[h1]
 rw[toVs_zip] at h2;obtain⟨l,hl⟩:∃l,D.ps.zip t.past=l:=⟨_,rfl⟩;rw[hl] at h2 hzl;rw[←hzl] at h2;obtain⟨g,h6,h7,h8⟩:=h2.rowAt (l:=l) (f:=fun x=>toV x.1 x.2) (size:=14) (fun _=>rfl) ((.bool false,.bool false),⟨0,0,0,0,0,0,0,0,0,[],[],[]⟩) (i:=k) (by rw[hzl];exact hk)
 subst h6;refine⟨g,A1,c1,A2,c2,_,by rw[hpv];rfl,⟨c,hpv⟩,h7,fun j hj=>?_,e⟩
 rw[h8 j hj];have e9:l.getD k ((.bool false,.bool false),⟨0,0,0,0,0,0,0,0,0,[],[],[]⟩)=((.slice A1 t.past[k].reads.length c1,.slice A2 t.past[k].cells.length c2),t.past[k]):=by
  rw[←hl,gD,(List.getElem?_zip_eq_some (z:=((.slice A1 t.past[k].reads.length c1,.slice A2 t.past[k].cells.length c2),t.past[k]))).2 ⟨h3,List.getElem?_eq_getElem hk⟩];rfl
 rw[e9]
end Go.Proofs.YtfodmgaliclhfaaGreatDoor
