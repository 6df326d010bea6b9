/- Lemmas. -/
import Derived.Test.YtfodmgaliclhfaaGreatDoorThEnded
namespace Go.Proofs.YtfodmgaliclhfaaGreatDoor
set_option linter.unusedVariables false
set_option linter.unusedSimpArgs false
set_option maxRecDepth 100000
set_option maxHeartbeats 16000000
open Go.RowKit Go.Proofs.Tryz Iq Jq
theorem EP (ω w:World)(F:HP)(b:Nat)(s:PSt)(t:PTh)(D:ThD)(h:Sat ω w (thX b s t D t.job*F))(hs:s.kept)(hf:t.fit)(hc:t.conflicts≤1000000)(d:Nat)(hd:d<256)(aw av ao ae:Nat)(ah ad:Bool):
  Calls prog 65 #[.pointer b,.agg #[υ aw,υ av,.bool ah,ao,.bool ad,ae],.int .u8 d] w (Rets ω F (.tuple #[]) (thH b s (t.yield_ s ⟨aw,⟨av,ah,ao⟩,ad,ae⟩ d))):=by
 have HPA:Hid (∀w1,Sat ω w1 (thX b s t D t.job*F)→Calls prog 96 #[.pointer b,.int .u8 d] w1 (Rets ω F (.tuple #[]) (thH b s (t.pause s d)))):=h_ (fun w1 h1=>Hs ω w1 F b s t D h1 hs hf hc d hd)
 have HS0:Hid (Sat ω (w.alloc (.cells #[υ aw,υ av,.bool ah,ao,.bool ad,ae] 100)) (thX b s t D t.job*F)):=h_ (h.junk _);have hb:=AE HS0.o;have kf:=hb.frozen;have kl:=hb.lt;obtain⟨yl,hyl⟩:∃yl,t.yielding=yl:=⟨_,rfl⟩;obtain⟨si,hsi⟩:∃si,t.since=si:=⟨_,rfl⟩;have k24:(w.alloc (.cells #[υ aw,υ av,.bool ah,ao,.bool ad,ae] 100)).cell? (κ b 24)=some (.int .u64 si):=by rw[←hsi];exact hb.cell 24
 have k25:(w.alloc (.cells #[υ aw,υ av,.bool ah,ao,.bool ad,ae] 100)).cell? (κ b 25)=some (.bool yl):=by rw[←hyl];exact hb.cell 25
 have hb1:=AE h;have kf1:=hb1.frozen;have kl1:=hb1.lt;have HST:Hid (∀w1,Sat ω w1 (thX b s t D t.job*F)→Sat ω ((w1.setCell (κ b 25) (.bool true)).setCell (κ b 24) (υ aw)) (thH b s {t with yielding:=true,since:=aw}*F)):=h_ (fun w1 h1=>Ak (D:=D) (Af (t':={t with yielding:=true,since:=aw}) (Af (t':={t with yielding:=true}) h1 25 (.bool true) rfl rfl rfl rfl rfl) 24 _ rfl rfl rfl rfl rfl))
 have HYE:Hid (t.yield_ s ⟨aw,⟨av,ah,ao⟩,ad,ae⟩ d=if ae=0∧aw≠0∧(yl=false∨aw=si) then {t with yielding:=true,since:=aw} else t.pause s d):=h_ (by
  unfold PTh.yield_;simp only[hyl,hsi])
 obtain⟨y0,hy0⟩:∃y0,t.yield_ s ⟨aw,⟨av,ah,ao⟩,ad,ae⟩ d=y0:=⟨_,rfl⟩;rw[hy0] at HYE ⊢;clear h hb hb1 hs hf hc hyl hsi hy0;by_cases hae:ae=0
 ·have d1:((ae:Int)==0)=true:=by rw[hae];rfl
  by_cases haw:aw=0
  ·have d2:((aw:Int) != 0)=false:=by rw[haw];rfl
   have hy:t.pause s d=y0:=by rw[HYE.o,if_neg (fun h9=>h9.2.1 haw)]
   subst hy;clear HYE HST hae haw;generalize t.pause s d=yy at *
   go_enter func65,ntmps65;go_wp2;go_quiet (fail);go_wp2_with (go_at_call 96;refine(HPA.o _ (HS0.o.drewN _)).mono ?_;rintro e w1 ⟨rfl,hs⟩;have HZ:=h_ hs;clear hs);first|(go_ret;exact⟨rfl,HZ.o⟩)|exact bodyPost_end (results_none rfl _ _ _) rfl ⟨rfl,HZ.o⟩|exact bodyPost_ret (results_none rfl _ _ _) rfl ⟨rfl,HZ.o⟩
  ·have d2:((aw:Int) != 0)=true:=by simp;omega
   cases yl
   ·have hy:({t with yielding:=true,since:=aw}:PTh)=y0:=by rw[HYE.o,if_pos ⟨hae,haw,.inl rfl⟩]
    subst hy;clear HYE HPA hae haw;generalize ({t with yielding:=true,since:=aw}:PTh)=yy at *
    go_enter func65,ntmps65;go_wp2;go_quiet (fail);go_wp2;refine wp_region_any (by kernel_rfl) ?_
    try (change wpAny _ _ _ _ _ _ _ (World.drew _))
    refine tF 0 ?_ rfl ?_ (tF 1 ?_ rfl ?_ (tF 2 ?_ rfl ?_ (tF 4 ?_ rfl ?_ (tF 5 ?_ rfl ?_ ?_))));all_goals (try (
     intro w;go_simp<;>(try with_reducible rfl)))
    refine rF [3,6] ?_;refine AllReady.cons rfl (fun K hK=>?_) ?_
    ·go_simp;refine hK _ _ ?_;clear hK K;refine oF 6 rfl fun K hK=>?_
     go_simp;refine hK _ _ ?_;clear hK K;refine tF 7 ?_ rfl ?_ (tF 8 ?_ rfl ?_ ?_);all_goals (try (
      intro w;go_simp<;>(try with_reducible rfl)))
     refine oF 9 rfl fun K hK=>?_
     go_simp;refine hK _ _ ?_;clear hK K;refine dF ?_;go_wp2;first|(go_ret;exact⟨rfl,HST.o _ (HS0.o.drewN _).drew⟩)|exact bodyPost_ret (results_none rfl _ _ _) rfl ⟨rfl,HST.o _ (HS0.o.drewN _).drew⟩|exact bodyPost_end (results_none rfl _ _ _) rfl ⟨rfl,HST.o _ (HS0.o.drewN _).drew⟩
    refine nF rfl fun K hK=>?_
    ·go_simp;refine hK _ _ ?_;clear hK K;refine oF 3 rfl fun K hK=>?_
     go_simp;refine hK _ _ ?_;clear hK K;refine tF 7 ?_ rfl ?_ (tF 8 ?_ rfl ?_ ?_);all_goals (try (
      intro w;go_simp<;>(try with_reducible rfl)))
     refine oF 9 rfl fun K hK=>?_
     go_simp;refine hK _ _ ?_;clear hK K;refine dF ?_;go_wp2;first|(go_ret;exact⟨rfl,HST.o _ (HS0.o.drewN _).drew⟩)|exact bodyPost_ret (results_none rfl _ _ _) rfl ⟨rfl,HST.o _ (HS0.o.drewN _).drew⟩|exact bodyPost_end (results_none rfl _ _ _) rfl ⟨rfl,HST.o _ (HS0.o.drewN _).drew⟩
   ·by_cases hws:aw=si
    ·have d3:((aw:Int)==(si:Int))=true:=by rw[hws];simp
     have hy:({t with yielding:=true,since:=aw}:PTh)=y0:=by rw[HYE.o,if_pos ⟨hae,haw,.inr hws⟩]
     subst hy;clear HYE HPA hae haw hws;generalize ({t with yielding:=true,since:=aw}:PTh)=yy at *
     go_enter func65,ntmps65;go_wp2;go_quiet (fail);go_wp2;refine wp_region_any (by kernel_rfl) ?_
     try (change wpAny _ _ _ _ _ _ _ (World.drew _))
     refine tF 0 ?_ rfl ?_ (tF 1 ?_ rfl ?_ (tF 2 ?_ rfl ?_ (tF 4 ?_ rfl ?_ (tF 5 ?_ rfl ?_ ?_))));all_goals (try (
      intro w;go_simp<;>(try with_reducible rfl)))
     refine rF [3,6] ?_;refine AllReady.cons rfl (fun K hK=>?_) ?_
     ·go_simp;refine hK _ _ ?_;clear hK K;refine oF 6 rfl fun K hK=>?_
      go_simp;refine hK _ _ ?_;clear hK K;refine tF 7 ?_ rfl ?_ (tF 8 ?_ rfl ?_ ?_);all_goals (try (
       intro w;go_simp<;>(try with_reducible rfl)))
      refine oF 9 rfl fun K hK=>?_
      go_simp;refine hK _ _ ?_;clear hK K;refine dF ?_;go_wp2;first|(go_ret;exact⟨rfl,HST.o _ (HS0.o.drewN _).drew⟩)|exact bodyPost_ret (results_none rfl _ _ _) rfl ⟨rfl,HST.o _ (HS0.o.drewN _).drew⟩|exact bodyPost_end (results_none rfl _ _ _) rfl ⟨rfl,HST.o _ (HS0.o.drewN _).drew⟩
     refine nF rfl fun K hK=>?_
     ·go_simp;refine hK _ _ ?_;clear hK K;refine oF 3 rfl fun K hK=>?_
      go_simp;refine hK _ _ ?_;clear hK K;refine tF 7 ?_ rfl ?_ (tF 8 ?_ rfl ?_ ?_);all_goals (try (
       intro w;go_simp<;>(try with_reducible rfl)))
      refine oF 9 rfl fun K hK=>?_
      go_simp;refine hK _ _ ?_;clear hK K;refine dF ?_;go_wp2;first|(go_ret;exact⟨rfl,HST.o _ (HS0.o.drewN _).drew⟩)|exact bodyPost_ret (results_none rfl _ _ _) rfl ⟨rfl,HST.o _ (HS0.o.drewN _).drew⟩|exact bodyPost_end (results_none rfl _ _ _) rfl ⟨rfl,HST.o _ (HS0.o.drewN _).drew⟩
    ·have d3:((aw:Int)==(si:Int))=false:=by rw[beq_eq_false_iff_ne];omega
     have hy:t.pause s d=y0:=by rw[HYE.o,if_neg (fun h9=>h9.2.2.elim (fun h8=>by cases h8) hws)]
     subst hy;clear HYE HST hae haw hws;generalize t.pause s d=yy at *
     go_enter func65,ntmps65;go_wp2;go_quiet (fail);go_wp2_with (go_at_call 96;refine(HPA.o _ (HS0.o.drewN _)).mono ?_;rintro e w1 ⟨rfl,hs⟩;have HZ:=h_ hs;clear hs);first|(go_ret;exact⟨rfl,HZ.o⟩)|exact bodyPost_end (results_none rfl _ _ _) rfl ⟨rfl,HZ.o⟩|exact bodyPost_ret (results_none rfl _ _ _) rfl ⟨rfl,HZ.o⟩
 ·have d1:((ae:Int)==0)=false:=by rw[beq_eq_false_iff_ne];omega
  have hy:t.pause s d=y0:=by rw[HYE.o,if_neg (fun h9=>hae h9.1)]
  subst hy;clear HYE HST hae;generalize t.pause s d=yy at *
  go_enter func65,ntmps65;go_wp2;go_quiet (fail);go_wp2_with (go_at_call 96;refine(HPA.o _ (HS0.o.drewN _)).mono ?_;rintro e w1 ⟨rfl,hs⟩;have HZ:=h_ hs;clear hs);first|(go_ret;exact⟨rfl,HZ.o⟩)|exact bodyPost_end (results_none rfl _ _ _) rfl ⟨rfl,HZ.o⟩|exact bodyPost_ret (results_none rfl _ _ _) rfl ⟨rfl,HZ.o⟩
theorem Rg [Inhabited PowO](ω w:World)(F:HP)(b:Nat)(s:PSt)(t:PTh)(h:Sat ω w (thH b s t*(powH*F)))(hs:s.kept)(K:Nat)(hK:ThFine K t)(hKb:K≤100000)(a:PAns)(d p:Nat)(hd:d<256)(ho:t.state=1→∀x,t.now=some x→AtTellOk s x a):
  Calls prog 39 #[.pointer b,ansA a,.int .u8 d,p] w (Rets ω (powH*F) (.tuple #[]) (thH b s (t.tell s a d p))):=by
 obtain⟨D,h⟩:=Ca h;have hfit:t.fit:=⟨hK.job,hK.jobs,fun q hq=>⟨(hK.prog q hq).code.elim fun _ hc=>hc.len,(hK.prog q hq).ok⟩⟩
 obtain⟨aw,⟨av,ah,ao⟩,ad,ae⟩:=a;show Calls _ _ #[_,.agg #[υ aw,υ av,.bool ah,ao,.bool ad,ae],_,_] _ _
 have hb1:=AE h;have kf1:=hb1.frozen;have kl1:=hb1.lt;have HS0:Hid (Sat ω (w.alloc (.cells #[υ aw,υ av,.bool ah,ao,.bool ad,ae] 100)) (thX b s t D t.job*(powH*F))):=h_ (h.junk _);have hb:=AE HS0.o;have kf:=hb.frozen;have kl:=hb.lt;obtain⟨st,hst⟩:∃st,t.state=st:=⟨_,rfl⟩;have k11:(w.alloc (.cells #[υ aw,υ av,.bool ah,ao,.bool ad,ae] 100)).cell? (κ b 11)=some (.int .i64 st):=by rw[←hst];exact hb.cell 11
 have k11w:w.cell? (κ b 11)=some (.int .i64 st):=by rw[←hst];exact hb1.cell 11
 have hK4:=hK.st;have hjl:=hK.jlt;rw[hst] at hK4 ho hjl;by_cases h2:st=2
 ·have e0:t.tell s ⟨aw,⟨av,ah,ao⟩,ad,ae⟩ d p=t.yield_ s ⟨aw,⟨av,ah,ao⟩,ad,ae⟩ d:=by unfold PTh.tell;rw[hst,h2];rfl
  rw[e0];have HYI:Hid (∀n,Calls prog 65 #[.pointer b,.agg #[υ aw,υ av,.bool ah,ao,.bool ad,ae],.int .u8 d] ((w.alloc (.cells #[υ aw,υ av,.bool ah,ao,.bool ad,ae] 100)).drewN n) (Rets ω (powH*F) (.tuple #[]) (thH b s (t.yield_ s ⟨aw,⟨av,ah,ao⟩,ad,ae⟩ d)))):=h_ (fun n=>EP ω _ _ b s t D (HS0.o.drewN n) hs hfit (by have:=hK.confl;omega) d hd aw av ao ae ah ad)
  have HY0:=h_ (HYI.o 0);have d1:((st:Int)==1)=false:=by rw[h2];rfl
  have d2:((st:Int)==2)=true:=by rw[h2];rfl
  generalize t.yield_ s ⟨aw,⟨av,ah,ao⟩,ad,ae⟩ d=yy at *
  clear h hb hb1 hst hK4 ho hjl h2 e0 hfit hK;go_enter func39,ntmps39;go_wp2_with (go_at_call 65;refine(HY0.o).mono ?_;rintro e w1 ⟨rfl,hs⟩;have HZ:=h_ hs;clear hs);first|(go_ret;exact⟨rfl,HZ.o⟩)|exact bodyPost_end (results_none rfl _ _ _) rfl ⟨rfl,HZ.o⟩|exact bodyPost_ret (results_none rfl _ _ _) rfl ⟨rfl,HZ.o⟩
 have d2:((st:Int)==2)=false:=by rw[beq_eq_false_iff_ne];omega
 have d5:((st:Int)==5)=false:=by rw[beq_eq_false_iff_ne];omega
 by_cases h1:st=1
 ·obtain⟨x,hx⟩:=hK.some_ (hst.trans h1);obtain⟨hfx,hfy,hwo⟩:=ho h1 x hx;obtain⟨y,hy⟩:∃y,x.tell s ⟨aw,⟨av,ah,ao⟩,ad,ae⟩=y:=⟨_,rfl⟩;have d1:((st:Int)==1)=true:=by rw[h1];rfl
  have e0:t.tell s ⟨aw,⟨av,ah,ao⟩,ad,ae⟩ d p=(if y.finOf≠0 then PTh.ended {t with now:=some y,born:=if(y.begun&&!x.begun)=true then p else t.born} s y d p else {t with now:=some y,born:=if(y.begun&&!x.begun)=true then p else t.born}):=by
   unfold PTh.tell;simp only[hst,h1,hx,hy]
  obtain⟨fo,hfo⟩:∃fo,y.finOf=fo:=⟨_,rfl⟩;obtain⟨yb,hyb⟩:∃yb,y.begun=yb:=⟨_,rfl⟩;obtain⟨xb,hxb⟩:∃xb,x.begun=xb:=⟨_,rfl⟩;rw[hfo,hyb,hxb] at e0;have k16:(w.alloc (.cells #[υ aw,υ av,.bool ah,ao,.bool ad,ae] 100)).cell? (κ b 16)=some (.pointer D.nb):=by
   have e:nowV D.nb t.now=pV D.nb:=by rw[hx];rfl
   have:=hb.cell 16
   rw[this];show some (nowV D.nb t.now)=_
   rw[e];rfl
  have HB1:Hid (Calls prog 61 #[.pointer D.nb] (w.alloc (.cells #[υ aw,υ av,.bool ah,ao,.bool ad,ae] 100)) fun e w'=>e=.returned (.tuple #[υ x.begin,.bool xb])∧∃q,w'=(w.alloc (.cells #[υ aw,υ av,.bool ah,ao,.bool ad,ae] 100)).drewN q):=h_ (by
   obtain⟨G,g1,_⟩:=Bp HS0.o hx;rw[←hxb];exact DI ω _ G D.nb s x g1)
  have HTE:Hid (∀w1,Sat ω w1 (thX b s t D t.job*(powH*F))→Calls prog 62 #[.pointer D.nb,.agg #[υ aw,υ av,.bool ah,ao,.bool ad,ae]] w1 fun e w'=>e=.returned (.tuple #[])∧Sat ω w' (thX b s {t with now:=some y} D t.job*(powH*F))):=h_ (fun w1 h9=>by
   obtain⟨G,g1,g2⟩:=Bp h9 hx;refine(Sx ω w1 G D.nb s x g1 hs.fit ⟨aw,⟨av,ah,ao⟩,ad,ae⟩ ⟨hfx,hfy,hwo⟩).mono ?_;rintro e w2 ⟨rfl,h10⟩;rw[hy] at h10;exact⟨rfl,(g2 w2 emp y h10.emp_).perm (AD _)⟩)
  have HB2:Hid (∀w1,Sat ω w1 (thX b s {t with now:=some y} D t.job*(powH*F))→Calls prog 61 #[.pointer D.nb] w1 fun e w'=>e=.returned (.tuple #[υ y.begin,.bool yb])∧∃q,w'=w1.drewN q):=h_ (fun w1 h9=>by
   obtain⟨G,g1,_⟩:=Bp (t:={t with now:=some y}) h9 rfl
   rw[←hyb];exact DI ω _ G D.nb s y g1)
  have HEF:Hid (∀w1 bn,Sat ω w1 (thX b s {t with now:=some y,born:=bn} D t.job*(powH*F))→Calls prog 63 #[.pointer D.nb] w1 fun e w'=>e=.returned fo∧w'=w1):=h_ (fun w1 bn h9=>by
   obtain⟨G,g1,_⟩:=Bp (t:={t with now:=some y,born:=bn}) h9 rfl
   rw[←hfo];exact He ω w1 G D.nb s y g1)
  rw[hy] at hfy;have HEN:Hid (∀w1 bn,Sat ω w1 (thX b s {t with now:=some y,born:=bn} D t.job*(powH*F))→Calls prog 64 #[.pointer b,.int .u8 d,p] w1 (Rets ω (powH*F) (.tuple #[]) (thH b s (PTh.ended {t with now:=some y,born:=bn} s y d p)))):=h_ (fun w1 bn h9=>by
   obtain⟨r1,r2,r3,r4⟩:=hfy.run;exact Od ω w1 F b s {t with now:=some y,born:=bn} D y rfl h9 ⟨r1,r2,r3,r4⟩ hs ⟨hfit.job,hfit.jobs,hfit.prog⟩ (hjl (by omega)) (Nat.le_trans hK.past hKb) (Nat.le_trans hK.res hKb) (Nat.le_trans hK.tries hKb) (Nat.le_trans hK.confl hKb) d p hd)
  have HBL:Hid (∀w1,Sat ω w1 (thX b s {t with now:=some y} D t.job*(powH*F))→Blk w1 b 138 (thC s {t with now:=some y} D t.job)):=h_ (fun w1 h9=>AE h9)
  have HBO:Hid (∀w1,Sat ω w1 (thX b s {t with now:=some y} D t.job*(powH*F))→Sat ω (w1.setCell (κ b 17) p) (thX b s {t with now:=some y,born:=p} D t.job*(powH*F))):=h_ (fun w1 h9=>Af (t':={t with now:=some y,born:=p}) h9 17 _ rfl rfl rfl rfl rfl)
  have HTO:Hid (∀w1 bn,Sat ω w1 (thX b s {t with now:=some y,born:=bn} D t.job*(powH*F))→Sat ω w1 (thH b s {t with now:=some y,born:=bn}*(powH*F))):=h_ (fun w1 bn h9=>Ak (D:=D) h9)
  obtain⟨y0,hy0⟩:∃y0,t.tell s ⟨aw,⟨av,ah,ao⟩,ad,ae⟩ d p=y0:=⟨_,rfl⟩;rw[hy0] at e0 ⊢;have HE:=h_ e0;obtain⟨bo,hbo⟩:∃bo,t.born=bo:=⟨_,rfl⟩;have HSM:Hid (∀w1,Sat ω w1 (thX b s {t with now:=some y} D t.job*(powH*F))→Sat ω w1 (thX b s {t with now:=some y,born:=bo} D t.job*(powH*F))):=h_ (fun w1 h9=>by rw[←hbo];exact h9)
  have HBn:=h_ hbo;clear h hb hb1 hst hK4 ho hjl h2 h1 e0 hy0 hfit hK hx hfx hfy hwo hy hfo hyb hxb hbo k11w hKb hs;cases yb
  ·cases xb
   ·by_cases hz:fo=0
    ·have dz:((fo:Int) != 0)=false:=by rw[hz];rfl
     have hyy:({t with now:=some y,born:=bo}:PTh)=y0:=by rw[HE.o,if_neg (fun h9=>h9 hz),HBn.o];rfl
     subst hyy;clear HE hz;have HTO2:=h_ (fun w1 h9=>HTO.o w1 bo h9)
     go_enter func39,ntmps39;go_wp2_with (go_at_call 61;refine(HB1.o).mono ?_;rintro e w1 ⟨rfl,q1,rfl⟩);refine rT 5 ?_;simp only[sD,sE,sF,sG];repeat still_step
     refine wpStill_nil ?_;go_wp2_with (first
      |(go_at_call 62;refine(HTE.o _ (HS0.o.drewN _).drew).mono ?_;rintro e wT ⟨rfl,hs⟩;have HT:=h_ hs;clear hs;have kT:=HBL.o _ HT.o;have qf:=kT.frozen;have ql:=kT.lt;have qE:=kT.cell 16;have q16:wT.cell? (κ b 16)=some (.pointer D.nb):=qE;have q17:wT.cell? (κ b 17)=some (.int .i64 bo):=(by rw[←HBn.o];exact kT.cell 17);clear kT qE)
      |(go_at_call 61;refine(HB2.o _ HT.o).mono ?_;rintro e w1 ⟨rfl,q2,rfl⟩)
      |(go_at_call 63;refine(HEF.o _ bo (HSM.o _ (HT.o.drewN _))).mono ?_;rintro e w1 ⟨rfl,rfl⟩))
     first|(go_ret;exact⟨rfl,HTO2.o _ (HSM.o _ (HT.o.drewN _))⟩)|exact bodyPost_end (results_none rfl _ _ _) rfl ⟨rfl,HTO2.o _ (HSM.o _ (HT.o.drewN _))⟩|exact bodyPost_ret (results_none rfl _ _ _) rfl ⟨rfl,HTO2.o _ (HSM.o _ (HT.o.drewN _))⟩
    ·have dz:((fo:Int) != 0)=true:=by simp;omega
     have hyy:PTh.ended ({t with now:=some y,born:=bo}:PTh) s y d p=y0:=by rw[HE.o,if_pos hz,HBn.o];rfl
     subst hyy;clear HE hz;have HEN2:=h_ (fun w1 h9=>HEN.o w1 bo h9)
     generalize PTh.ended ({t with now:=some y,born:=bo}:PTh) s y d p=yy at HEN2 ⊢
     go_enter func39,ntmps39;go_wp2_with (go_at_call 61;refine(HB1.o).mono ?_;rintro e w1 ⟨rfl,q1,rfl⟩);refine rT 5 ?_;simp only[sD,sE,sF,sG];repeat still_step
     refine wpStill_nil ?_;go_wp2_with (first
      |(go_at_call 62;refine(HTE.o _ (HS0.o.drewN _).drew).mono ?_;rintro e wT ⟨rfl,hs⟩;have HT:=h_ hs;clear hs;have kT:=HBL.o _ HT.o;have qf:=kT.frozen;have ql:=kT.lt;have qE:=kT.cell 16;have q16:wT.cell? (κ b 16)=some (.pointer D.nb):=qE;have q17:wT.cell? (κ b 17)=some (.int .i64 bo):=(by rw[←HBn.o];exact kT.cell 17);clear kT qE)
      |(go_at_call 61;refine(HB2.o _ HT.o).mono ?_;rintro e w1 ⟨rfl,q2,rfl⟩)
      |(go_at_call 63;refine(HEF.o _ bo (HSM.o _ (HT.o.drewN _))).mono ?_;rintro e w1 ⟨rfl,rfl⟩)
      |(go_at_call 64;refine(HEN2.o _ (HSM.o _ (HT.o.drewN _))).mono ?_;rintro e w1 ⟨rfl,hs⟩;have HZ:=h_ hs;clear hs))
     first|(go_ret;exact⟨rfl,HZ.o⟩)|exact bodyPost_end (results_none rfl _ _ _) rfl ⟨rfl,HZ.o⟩|exact bodyPost_ret (results_none rfl _ _ _) rfl ⟨rfl,HZ.o⟩
   ·by_cases hz:fo=0
    ·have dz:((fo:Int) != 0)=false:=by rw[hz];rfl
     have hyy:({t with now:=some y,born:=bo}:PTh)=y0:=by rw[HE.o,if_neg (fun h9=>h9 hz),HBn.o];rfl
     subst hyy;clear HE hz;have HTO2:=h_ (fun w1 h9=>HTO.o w1 bo h9)
     go_enter func39,ntmps39;go_wp2_with (go_at_call 61;refine(HB1.o).mono ?_;rintro e w1 ⟨rfl,q1,rfl⟩);refine rT 5 ?_;simp only[sD,sE,sF,sG];repeat still_step
     refine wpStill_nil ?_;go_wp2_with (first
      |(go_at_call 62;refine(HTE.o _ (HS0.o.drewN _).drew).mono ?_;rintro e wT ⟨rfl,hs⟩;have HT:=h_ hs;clear hs;have kT:=HBL.o _ HT.o;have qf:=kT.frozen;have ql:=kT.lt;have qE:=kT.cell 16;have q16:wT.cell? (κ b 16)=some (.pointer D.nb):=qE;have q17:wT.cell? (κ b 17)=some (.int .i64 bo):=(by rw[←HBn.o];exact kT.cell 17);clear kT qE)
      |(go_at_call 61;refine(HB2.o _ HT.o).mono ?_;rintro e w1 ⟨rfl,q2,rfl⟩)
      |(go_at_call 63;refine(HEF.o _ bo (HSM.o _ (HT.o.drewN _))).mono ?_;rintro e w1 ⟨rfl,rfl⟩))
     first|(go_ret;exact⟨rfl,HTO2.o _ (HSM.o _ (HT.o.drewN _))⟩)|exact bodyPost_end (results_none rfl _ _ _) rfl ⟨rfl,HTO2.o _ (HSM.o _ (HT.o.drewN _))⟩|exact bodyPost_ret (results_none rfl _ _ _) rfl ⟨rfl,HTO2.o _ (HSM.o _ (HT.o.drewN _))⟩
    ·have dz:((fo:Int) != 0)=true:=by simp;omega
     have hyy:PTh.ended ({t with now:=some y,born:=bo}:PTh) s y d p=y0:=by rw[HE.o,if_pos hz,HBn.o];rfl
     subst hyy;clear HE hz;have HEN2:=h_ (fun w1 h9=>HEN.o w1 bo h9)
     generalize PTh.ended ({t with now:=some y,born:=bo}:PTh) s y d p=yy at HEN2 ⊢
     go_enter func39,ntmps39;go_wp2_with (go_at_call 61;refine(HB1.o).mono ?_;rintro e w1 ⟨rfl,q1,rfl⟩);refine rT 5 ?_;simp only[sD,sE,sF,sG];repeat still_step
     refine wpStill_nil ?_;go_wp2_with (first
      |(go_at_call 62;refine(HTE.o _ (HS0.o.drewN _).drew).mono ?_;rintro e wT ⟨rfl,hs⟩;have HT:=h_ hs;clear hs;have kT:=HBL.o _ HT.o;have qf:=kT.frozen;have ql:=kT.lt;have qE:=kT.cell 16;have q16:wT.cell? (κ b 16)=some (.pointer D.nb):=qE;have q17:wT.cell? (κ b 17)=some (.int .i64 bo):=(by rw[←HBn.o];exact kT.cell 17);clear kT qE)
      |(go_at_call 61;refine(HB2.o _ HT.o).mono ?_;rintro e w1 ⟨rfl,q2,rfl⟩)
      |(go_at_call 63;refine(HEF.o _ bo (HSM.o _ (HT.o.drewN _))).mono ?_;rintro e w1 ⟨rfl,rfl⟩)
      |(go_at_call 64;refine(HEN2.o _ (HSM.o _ (HT.o.drewN _))).mono ?_;rintro e w1 ⟨rfl,hs⟩;have HZ:=h_ hs;clear hs))
     first|(go_ret;exact⟨rfl,HZ.o⟩)|exact bodyPost_end (results_none rfl _ _ _) rfl ⟨rfl,HZ.o⟩|exact bodyPost_ret (results_none rfl _ _ _) rfl ⟨rfl,HZ.o⟩
  ·cases xb
   ·by_cases hz:fo=0
    ·have dz:((fo:Int) != 0)=false:=by rw[hz];rfl
     have hyy:({t with now:=some y,born:=p}:PTh)=y0:=by rw[HE.o,if_neg (fun h9=>h9 hz)];rfl
     subst hyy;clear HE hz;have HTO2:=h_ (fun w1 h9=>HTO.o w1 p h9)
     go_enter func39,ntmps39;go_wp2_with (go_at_call 61;refine(HB1.o).mono ?_;rintro e w1 ⟨rfl,q1,rfl⟩);refine rT 5 ?_;simp only[sD,sE,sF,sG];repeat still_step
     refine wpStill_nil ?_;go_wp2_with (first
      |(go_at_call 62;refine(HTE.o _ (HS0.o.drewN _).drew).mono ?_;rintro e wT ⟨rfl,hs⟩;have HT:=h_ hs;clear hs;have kT:=HBL.o _ HT.o;have qf:=kT.frozen;have ql:=kT.lt;have qE:=kT.cell 16;have q16:wT.cell? (κ b 16)=some (.pointer D.nb):=qE;have q17:wT.cell? (κ b 17)=some (.int .i64 bo):=(by rw[←HBn.o];exact kT.cell 17);clear kT qE)
      |(go_at_call 61;refine(HB2.o _ HT.o).mono ?_;rintro e w1 ⟨rfl,q2,rfl⟩)
      |(go_at_call 63;refine(HEF.o _ p (HBO.o _ (HT.o.drewN _))).mono ?_;rintro e w1 ⟨rfl,rfl⟩))
     first|(go_ret;exact⟨rfl,HTO2.o _ (HBO.o _ (HT.o.drewN _))⟩)|exact bodyPost_end (results_none rfl _ _ _) rfl ⟨rfl,HTO2.o _ (HBO.o _ (HT.o.drewN _))⟩|exact bodyPost_ret (results_none rfl _ _ _) rfl ⟨rfl,HTO2.o _ (HBO.o _ (HT.o.drewN _))⟩
    ·have dz:((fo:Int) != 0)=true:=by simp;omega
     have hyy:PTh.ended ({t with now:=some y,born:=p}:PTh) s y d p=y0:=by rw[HE.o,if_pos hz];rfl
     subst hyy;clear HE hz;have HEN2:=h_ (fun w1 h9=>HEN.o w1 p h9)
     generalize PTh.ended ({t with now:=some y,born:=p}:PTh) s y d p=yy at HEN2 ⊢
     go_enter func39,ntmps39;go_wp2_with (go_at_call 61;refine(HB1.o).mono ?_;rintro e w1 ⟨rfl,q1,rfl⟩);refine rT 5 ?_;simp only[sD,sE,sF,sG];repeat still_step
     refine wpStill_nil ?_;go_wp2_with (first
      |(go_at_call 62;refine(HTE.o _ (HS0.o.drewN _).drew).mono ?_;rintro e wT ⟨rfl,hs⟩;have HT:=h_ hs;clear hs;have kT:=HBL.o _ HT.o;have qf:=kT.frozen;have ql:=kT.lt;have qE:=kT.cell 16;have q16:wT.cell? (κ b 16)=some (.pointer D.nb):=qE;have q17:wT.cell? (κ b 17)=some (.int .i64 bo):=(by rw[←HBn.o];exact kT.cell 17);clear kT qE)
      |(go_at_call 61;refine(HB2.o _ HT.o).mono ?_;rintro e w1 ⟨rfl,q2,rfl⟩)
      |(go_at_call 63;refine(HEF.o _ p (HBO.o _ (HT.o.drewN _))).mono ?_;rintro e w1 ⟨rfl,rfl⟩)
      |(go_at_call 64;refine(HEN2.o _ (HBO.o _ (HT.o.drewN _))).mono ?_;rintro e w1 ⟨rfl,hs⟩;have HZ:=h_ hs;clear hs))
     first|(go_ret;exact⟨rfl,HZ.o⟩)|exact bodyPost_end (results_none rfl _ _ _) rfl ⟨rfl,HZ.o⟩|exact bodyPost_ret (results_none rfl _ _ _) rfl ⟨rfl,HZ.o⟩
   ·by_cases hz:fo=0
    ·have dz:((fo:Int) != 0)=false:=by rw[hz];rfl
     have hyy:({t with now:=some y,born:=bo}:PTh)=y0:=by rw[HE.o,if_neg (fun h9=>h9 hz),HBn.o];rfl
     subst hyy;clear HE hz;have HTO2:=h_ (fun w1 h9=>HTO.o w1 bo h9)
     go_enter func39,ntmps39;go_wp2_with (go_at_call 61;refine(HB1.o).mono ?_;rintro e w1 ⟨rfl,q1,rfl⟩);refine rT 5 ?_;simp only[sD,sE,sF,sG];repeat still_step
     refine wpStill_nil ?_;go_wp2_with (first
      |(go_at_call 62;refine(HTE.o _ (HS0.o.drewN _).drew).mono ?_;rintro e wT ⟨rfl,hs⟩;have HT:=h_ hs;clear hs;have kT:=HBL.o _ HT.o;have qf:=kT.frozen;have ql:=kT.lt;have qE:=kT.cell 16;have q16:wT.cell? (κ b 16)=some (.pointer D.nb):=qE;have q17:wT.cell? (κ b 17)=some (.int .i64 bo):=(by rw[←HBn.o];exact kT.cell 17);clear kT qE)
      |(go_at_call 61;refine(HB2.o _ HT.o).mono ?_;rintro e w1 ⟨rfl,q2,rfl⟩)
      |(go_at_call 63;refine(HEF.o _ bo (HSM.o _ (HT.o.drewN _))).mono ?_;rintro e w1 ⟨rfl,rfl⟩))
     first|(go_ret;exact⟨rfl,HTO2.o _ (HSM.o _ (HT.o.drewN _))⟩)|exact bodyPost_end (results_none rfl _ _ _) rfl ⟨rfl,HTO2.o _ (HSM.o _ (HT.o.drewN _))⟩|exact bodyPost_ret (results_none rfl _ _ _) rfl ⟨rfl,HTO2.o _ (HSM.o _ (HT.o.drewN _))⟩
    ·have dz:((fo:Int) != 0)=true:=by simp;omega
     have hyy:PTh.ended ({t with now:=some y,born:=bo}:PTh) s y d p=y0:=by rw[HE.o,if_pos hz,HBn.o];rfl
     subst hyy;clear HE hz;have HEN2:=h_ (fun w1 h9=>HEN.o w1 bo h9)
     generalize PTh.ended ({t with now:=some y,born:=bo}:PTh) s y d p=yy at HEN2 ⊢
     go_enter func39,ntmps39;go_wp2_with (go_at_call 61;refine(HB1.o).mono ?_;rintro e w1 ⟨rfl,q1,rfl⟩);refine rT 5 ?_;simp only[sD,sE,sF,sG];repeat still_step
     refine wpStill_nil ?_;go_wp2_with (first
      |(go_at_call 62;refine(HTE.o _ (HS0.o.drewN _).drew).mono ?_;rintro e wT ⟨rfl,hs⟩;have HT:=h_ hs;clear hs;have kT:=HBL.o _ HT.o;have qf:=kT.frozen;have ql:=kT.lt;have qE:=kT.cell 16;have q16:wT.cell? (κ b 16)=some (.pointer D.nb):=qE;have q17:wT.cell? (κ b 17)=some (.int .i64 bo):=(by rw[←HBn.o];exact kT.cell 17);clear kT qE)
      |(go_at_call 61;refine(HB2.o _ HT.o).mono ?_;rintro e w1 ⟨rfl,q2,rfl⟩)
      |(go_at_call 63;refine(HEF.o _ bo (HSM.o _ (HT.o.drewN _))).mono ?_;rintro e w1 ⟨rfl,rfl⟩)
      |(go_at_call 64;refine(HEN2.o _ (HSM.o _ (HT.o.drewN _))).mono ?_;rintro e w1 ⟨rfl,hs⟩;have HZ:=h_ hs;clear hs))
     first|(go_ret;exact⟨rfl,HZ.o⟩)|exact bodyPost_end (results_none rfl _ _ _) rfl ⟨rfl,HZ.o⟩|exact bodyPost_ret (results_none rfl _ _ _) rfl ⟨rfl,HZ.o⟩
 ·have d1:((st:Int)==1)=false:=by rw[beq_eq_false_iff_ne];omega
  have e0:t.tell s ⟨aw,⟨av,ah,ao⟩,ad,ae⟩ d p=t:=by
   unfold PTh.tell;rcases hK4 with k|k|k|k|k
   ·exact absurd k h1
   ·exact absurd k h2
   all_goals (rw[hst,k];rfl)
  rw[e0];have HZ:Hid (Sat ω (w.alloc (.cells #[υ aw,υ av,.bool ah,ao,.bool ad,ae] 100)) (thH b s t*(powH*F))):=h_ (Ak HS0.o);clear h hb hb1 hst hK4 ho hjl h2 h1 e0 hfit hK;go_enter func39,ntmps39;go_wp2;first|(go_ret;exact⟨rfl,HZ.o⟩)|exact bodyPost_end (results_none rfl _ _ _) rfl ⟨rfl,HZ.o⟩|exact bodyPost_ret (results_none rfl _ _ _) rfl ⟨rfl,HZ.o⟩
theorem Ug {W:World}{p:Nat}{A B C D E G H I J:Int}{A1 A2:Option Addr}{n1 n2 c1 c2:Nat}{S:ByteArray}{tmps:Array Value}(h2:tmps.getD 2 undef=.pointer p)(hb:Blk W p 52 #[A,B,C,.bool false,D,E,υ G,υ H,I,J,.slice A1 n1 c1,.slice A2 n2 c2,.slice none 0 0,.string S])(Q:Ending→World→Prop)(hq:Q (.returned (.agg #[A,B,C,.bool false,D,E,υ G,υ H,I,J,.slice A1 n1 c1,.slice A2 n2 c2,.slice none 0 0,.string S])) W):
  bodyPost prog f69 Q Exit.ret {tmps:=tmps,defers:=[]} W:=by
 have kl:=hb.lt;have m0:=hb.c 0;have m1:=hb.c 1;have m2:=hb.c 2;have m3:=hb.c 3;have m4:=hb.c 4;have m5:=hb.c 5;have m6:=hb.c 6;have m7:=hb.c 7;have m8:=hb.c 8;have m9:=hb.c 9;have m10:=hb.c 10;have m11:=hb.c 11;have m12:=hb.c 12;have m13:=hb.c 13;have h2':tmps[2]?.getD undef=.pointer p:=by simpa using h2
 refine bodyPost_ret (v:=.agg #[A,B,C,.bool false,D,E,υ G,υ H,I,J,.slice A1 n1 c1,.slice A2 n2 c2,.slice none 0 0,.string S]) ?_ rfl hq;simp[results,results69,go_sem,h2',m0,m1,m2,m3,m4,m5,m6,m7,m8,m9,m10,m11,m12,m13]
def CopS (N:Nat)(CS:Array Value)(w:World):Prop:=∃u1 u2,Blk w N 52 ((CS.setIfInBounds 10 u1).setIfInBounds 11 u2)
theorem MT (ω w:World)(F:HP)(thread job try_ kind err begin stamp born ended:Nat)(sl:ByteArray)(A1 A2:Option Addr)(n1 c1 n2 c2:Nat)(l1 l2:List (Nat×Nat))(hn1:n1≤1000000)(hn2:n2≤1000000)(h:Sat ω w (row 54 2 (.slice A1 n1 c1) n1 (vS l1)*(row 54 2 (.slice A2 n2 c2) n2 (vS l2)*F))):
  Calls prog 69 #[.agg #[thread,job,try_,.bool false,kind,err,υ begin,υ stamp,born,ended,.slice A1 n1 c1,.slice A2 n2 c2,.slice none 0 0,.string sl]] w fun e w'=>∃B1 d1 B2 d2,e=.returned (.agg #[thread,job,try_,.bool false,kind,err,υ begin,υ stamp,born,ended,.slice B1 n1 d1,.slice B2 n2 d2,.slice none 0 0,.string sl])∧Sat ω w' ((row 54 2 (.slice B1 n1 d1) n1 (vS l1)*row 54 2 (.slice B2 n2 d2) n2 (vS l2))*(row 54 2 (.slice A1 n1 c1) n1 (vS l1)*(row 54 2 (.slice A2 n2 c2) n2 (vS l2)*F))):=by
 obtain⟨N,hN⟩:∃N,w.heap.size=N:=⟨_,rfl⟩;obtain⟨R1,hR1⟩:∃R1:HP,R1=row 54 2 (.slice A1 n1 c1) n1 (vS l1):=⟨_,rfl⟩;obtain⟨R2,hR2⟩:∃R2:HP,R2=row 54 2 (.slice A2 n2 c2) n2 (vS l2):=⟨_,rfl⟩;have HC1:Hid (∀w1 G,Sat ω w1 (R1*G)→Calls prog 106 #[.slice A1 n1 c1] w1 fun e w'=>∃B d,e=.returned (.slice B n1 d)∧Sat ω w' (row 54 2 (.slice B n1 d) n1 (vS l1)*(R1*G))):=h_ (fun w1 G h1=>by
  rw[hR1] at h1 ⊢;refine(CN ω w1 G A1 n1 c1 (vS l1) h1 hn1 (CZ _)).mono ?_;rintro e w2 ⟨B,d,rfl,h2⟩;exact⟨B,d,rfl,h2⟩)
 have HC2:Hid (∀w1 G,Sat ω w1 (R2*G)→Calls prog 106 #[.slice A2 n2 c2] w1 fun e w'=>∃B d,e=.returned (.slice B n2 d)∧Sat ω w' (row 54 2 (.slice B n2 d) n2 (vS l2)*(R2*G))):=h_ (fun w1 G h1=>by
  rw[hR2] at h1 ⊢;refine(CN ω w1 G A2 n2 c2 (vS l2) h1 hn2 (CZ _)).mono ?_;rintro e w2 ⟨B,d,rfl,h2⟩;exact⟨B,d,rfl,h2⟩)
 have HC3:=h_ (fun w1=>Tryz.slices_Clone_int_nil 0 0 w1)
 rw[←hR1,←hR2] at h ⊢;have HX0:Hid (Sat ω ((w.alloc (.cells #[thread,job,try_,.bool false,kind,err,υ begin,υ stamp,born,ended,.slice A1 n1 c1,.slice A2 n2 c2,.slice none 0 0,.string sl] 52)).alloc (.cells η 52)) (R1*(bk N 52 #[thread,job,try_,.bool false,kind,err,υ begin,υ stamp,born,ended,.slice A1 n1 c1,.slice A2 n2 c2,.slice none 0 0,.string sl]*(bk (N+1) 52 η*(R2*F))))):=h_ (by
  have h1:=(h.new #[thread,job,try_,.bool false,kind,err,υ begin,υ stamp,born,ended,.slice A1 n1 c1,.slice A2 n2 c2,.slice none 0 0,.string sl] 52).new η 52;simp only[World.size_alloc] at h1;rw[hN] at h1;exact h1.perm (by ac_rfl))
 have HX1:=h_ (HX0.o.drewN 1);have hlN:w.heap.size<w.heap.size+1:=by omega
 have hlN2:w.heap.size<w.heap.size+1+1:=by omega
 have HB1:Hid (∀w1 R,Sat ω w1 (R*(R1*(bk N 52 #[thread,job,try_,.bool false,kind,err,υ begin,υ stamp,born,ended,.slice A1 n1 c1,.slice A2 n2 c2,.slice none 0 0,.string sl]*(bk (N+1) 52 η*(R2*F)))))→Blk w1 N 52 #[thread,job,try_,.bool false,kind,err,υ begin,υ stamp,born,ended,.slice A1 n1 c1,.slice A2 n2 c2,.slice none 0 0,.string sl]):=h_ (fun w1 R h1=>h1.right.right.blk)
 have HB2:Hid (∀w1 Ra Rb,Sat ω w1 (Ra*(R2*(Rb*(R1*(bk N 52 #[thread,job,try_,.bool false,kind,err,υ begin,υ stamp,born,ended,.slice A1 n1 c1,.slice A2 n2 c2,.slice none 0 0,.string sl]*(bk (N+1) 52 η*F))))))→Blk w1 N 52 #[thread,job,try_,.bool false,kind,err,υ begin,υ stamp,born,ended,.slice A1 n1 c1,.slice A2 n2 c2,.slice none 0 0,.string sl]):=h_ (fun w1 Ra Rb h1=>h1.right.right.right.right.blk)
 have HP2:Hid (∀w1 R,Sat ω w1 (R*(R1*(bk N 52 #[thread,job,try_,.bool false,kind,err,υ begin,υ stamp,born,ended,.slice A1 n1 c1,.slice A2 n2 c2,.slice none 0 0,.string sl]*(bk (N+1) 52 η*(R2*F)))))→Sat ω w1 (R2*(R*(R1*(bk N 52 #[thread,job,try_,.bool false,kind,err,υ begin,υ stamp,born,ended,.slice A1 n1 c1,.slice A2 n2 c2,.slice none 0 0,.string sl]*(bk (N+1) 52 η*F)))))):=h_ (fun w1 R h1=>h1.perm (by ac_rfl))
 have HFI:Hid (∀w1 B1 d1 B2 d2,Sat ω w1 (row 54 2 (.slice B2 n2 d2) n2 (vS l2)*(R2*(row 54 2 (.slice B1 n1 d1) n1 (vS l1)*(R1*(bk N 52 #[thread,job,try_,.bool false,kind,err,υ begin,υ stamp,born,ended,.slice A1 n1 c1,.slice A2 n2 c2,.slice none 0 0,.string sl]*(bk (N+1) 52 η*F))))))→Sat ω (((w1.setCell (κ N 10) (.slice B1 n1 d1)).setCell (κ N 11) (.slice B2 n2 d2)).setCell (κ N 12) (.slice none 0 0)) (bk (N+1) 52 η*(bk N 52 #[thread,job,try_,.bool false,kind,err,υ begin,υ stamp,born,ended,.slice B1 n1 d1,.slice B2 n2 d2,.slice none 0 0,.string sl]*((row 54 2 (.slice B1 n1 d1) n1 (vS l1)*row 54 2 (.slice B2 n2 d2) n2 (vS l2))*(R1*(R2*F)))))):=h_ (fun w1 B1 d1 B2 d2 h1=>by
  have h2:Sat ω w1 (bk N 52 #[thread,job,try_,.bool false,kind,err,υ begin,υ stamp,born,ended,.slice A1 n1 c1,.slice A2 n2 c2,.slice none 0 0,.string sl]*(bk (N+1) 52 η*((row 54 2 (.slice B1 n1 d1) n1 (vS l1)*row 54 2 (.slice B2 n2 d2) n2 (vS l2))*(R1*(R2*F))))):=h1.perm (by ac_rfl)
  exact(((h2.put 10 (.slice B1 n1 d1) (cs':=#[thread,job,try_,.bool false,kind,err,υ begin,υ stamp,born,ended,.slice B1 n1 d1,.slice A2 n2 c2,.slice none 0 0,.string sl]) rfl).put 11 (.slice B2 n2 d2) (cs':=#[thread,job,try_,.bool false,kind,err,υ begin,υ stamp,born,ended,.slice B1 n1 d1,.slice B2 n2 d2,.slice none 0 0,.string sl]) rfl).put 12 (.slice none 0 0) (cs':=#[thread,job,try_,.bool false,kind,err,υ begin,υ stamp,born,ended,.slice B1 n1 d1,.slice B2 n2 d2,.slice none 0 0,.string sl]) rfl).swap)
 have HP14:Hid (∀w1 B1 d1 B2 d2 G,Sat ω w1 (bk (N+1) 52 η*G)→Sat ω ((((((((((((((w1.setCell ⟨N+1,0,none⟩ thread).setCell ⟨N+1,1,none⟩ job).setCell ⟨N+1,2,none⟩ try_).setCell ⟨N+1,3,none⟩ (.bool false)).setCell ⟨N+1,4,none⟩ kind).setCell ⟨N+1,5,none⟩ err).setCell ⟨N+1,6,none⟩ (υ begin)).setCell ⟨N+1,7,none⟩ (υ stamp)).setCell ⟨N+1,8,none⟩ born).setCell ⟨N+1,9,none⟩ ended).setCell ⟨N+1,10,none⟩ (.slice B1 n1 d1)).setCell ⟨N+1,11,none⟩ (.slice B2 n2 d2)).setCell ⟨N+1,12,none⟩ (.slice none 0 0)).setCell ⟨N+1,13,none⟩ (.string sl)) (bk (N+1) 52 #[thread,job,try_,.bool false,kind,err,υ begin,υ stamp,born,ended,.slice B1 n1 d1,.slice B2 n2 d2,.slice none 0 0,.string sl]*G)):=h_ (fun w1 B1 d1 B2 d2 G h1=>PC (.int .i64 thread) (.int .i64 job) (.int .i64 try_) (.bool false) (.int .i64 kind) (.int .i64 err) (.int .u64 begin) (.int .u64 stamp) (.int .i64 born) (.int .i64 ended) (.slice B1 n1 d1) (.slice B2 n2 d2) (.slice none 0 0) (.string sl) h1)
 go_enter func69,ntmps69;go_upto_region 1 with(fail)
 go_cut [] from 3 (fun wx=>∃B1 d1 B2 d2,Hid (Sat ω wx (bk (N+1) 52 η*(bk N 52 #[thread,job,try_,.bool false,kind,err,υ begin,υ stamp,born,ended,.slice B1 n1 d1,.slice B2 n2 d2,.slice none 0 0,.string sl]*((row 54 2 (.slice B1 n1 d1) n1 (vS l1)*row 54 2 (.slice B2 n2 d2) n2 (vS l2))*(R1*(R2*F)))))))
 case first =>
  have kX:=HX1.o.right.blk;have lX:=kX.lt;have fX:=kX.frozen;have x10:((w.alloc (.cells #[thread,job,try_,.bool false,kind,err,υ begin,υ stamp,born,ended,.slice A1 n1 c1,.slice A2 n2 c2,.slice none 0 0,.string sl] 52)).alloc (.cells η 52)).drew.cell? (κ N 10)=some (.slice A1 n1 c1):=kX.cell 10;have x11:((w.alloc (.cells #[thread,job,try_,.bool false,kind,err,υ begin,υ stamp,born,ended,.slice A1 n1 c1,.slice A2 n2 c2,.slice none 0 0,.string sl] 52)).alloc (.cells η 52)).drew.cell? (κ N 11)=some (.slice A2 n2 c2):=kX.cell 11;have x12:((w.alloc (.cells #[thread,job,try_,.bool false,kind,err,υ begin,υ stamp,born,ended,.slice A1 n1 c1,.slice A2 n2 c2,.slice none 0 0,.string sl] 52)).alloc (.cells η 52)).drew.cell? (κ N 12)=some (.slice none 0 0):=kX.cell 12;refine wp_region_noPanic ?_;refine wp_region_held_drew (S:=CopS N #[thread,job,try_,.bool false,kind,err,υ begin,υ stamp,born,ended,.slice A1 n1 c1,.slice A2 n2 c2,.slice none 0 0,.string sl]) (by kernel_rfl) ⟨.slice A1 n1 c1,.slice A2 n2 c2,HX1.o.right.blk⟩ (fun hh0=>?_)
  refine tH 0 ?_ rfl ?_ (tH 3 ?_ rfl ?_ (tH 6 ?_ rfl ?_ (tH 7 ?_ rfl ?_ ?_)));all_goals (try (
   intro w hSw;obtain⟨y1,y2,hS2⟩:=hSw;have jl:=hS2.lt;have j12:=hS2.c 12;try simp only[sP]
   go_simp<;>(try with_reducible rfl)))
  try simp only[sP]
  refine rH [1,4] ?_;refine cH rfl (fun K hK=>?_) ?_
  ·go_simp;(try go_wp2_with fail);refine hK.q ?_ fun hh1=>?_
   ·exact⟨.slice A1 n1 c1,.slice A2 n2 c2,HX1.o.right.blk⟩
   try simp only[sP]
   refine rH [2,4] ?_;refine cH rfl (fun K hK=>?_) ?_
   ·go_simp;go_at_call 106;refine(HC1.o _ _ HX1.o).mono ?_;rintro e wA ⟨B1,d1,rfl,hs⟩;have HA:=h_ hs;have kA:=HB1.o _ _ hs;have lA:=kA.lt;have fA:=kA.frozen;have p10:=kA.c 10;have p11:=kA.c 11;have p12:=kA.c 12;(try go_wp2_with fail);refine hK.q ?_ fun hh2=>?_
    ·exact⟨.slice A1 n1 c1,.slice A2 n2 c2,HB1.o _ _ HA.o⟩
    try simp only[sP]
    refine oH 4 rfl fun K hK=>?_
    go_simp;(try go_wp2_with fail);refine hK.q ?_ fun hh3=>?_
    ·exact⟨.slice A1 n1 c1,.slice A2 n2 c2,HB1.o _ _ HA.o⟩
    try simp only[sP]
    refine tH 9 ?_ rfl ?_ ?_;all_goals (try (
     intro w hSw;obtain⟨y1,y2,hS2⟩:=hSw;have jl:=hS2.lt;have j12:=hS2.c 12;go_simp<;>(try with_reducible rfl)))
    try simp only[sP]
    refine oH 5 rfl fun K hK=>?_
    go_simp;go_at_call 106;refine(HC2.o _ _ (HP2.o _ _ HA.o)).mono ?_;rintro e wB ⟨B2,d2,rfl,hs⟩;have HB:=h_ hs;have kB:=HB2.o _ _ _ hs;have lB:=kB.lt;have fB:=kB.frozen;have r10:=kB.c 10;have r11:=kB.c 11;have r12:=kB.c 12;(try go_wp2_with fail);refine hK.q ?_ fun hh4=>?_
    ·exact⟨.slice A1 n1 c1,.slice A2 n2 c2,HB2.o _ _ _ HB.o⟩
    try simp only[sP]
    refine oH 8 rfl fun K hK=>?_
    go_simp;go_at_call 107;refine(HC3.o _).mono ?_;rintro e wQ ⟨rfl,rfl⟩;(try go_wp2_with fail);refine hK.q ?_ fun hh5=>?_
    ·exact⟨.slice A1 n1 c1,.slice A2 n2 c2,HB2.o _ _ _ HB.o⟩
    try simp only[sP]
    refine oH 10 rfl fun K hK=>?_
    go_simp;(try go_wp2_with fail);refine hK.q ?_ fun hh6=>?_
    ·exact⟨.slice B1 n1 d1,.slice A2 n2 c2,(HB2.o _ _ _ HB.o).set_ 10 (.slice B1 n1 d1)⟩
    try simp only[sP]
    refine tH 11 ?_ rfl ?_ ?_;all_goals (try (
     intro w hSw;obtain⟨y1,y2,hS2⟩:=hSw;have jl:=hS2.lt;have j12:=hS2.c 12;go_simp<;>(try with_reducible rfl)))
    try simp only[sP]
    refine oH 12 rfl fun K hK=>?_
    go_simp;(try go_wp2_with fail);refine hK.q ?_ fun hh7=>?_
    ·exact⟨.slice B1 n1 d1,.slice B2 n2 d2,((HB2.o _ _ _ HB.o).set_ 10 (.slice B1 n1 d1)).set_ 11 (.slice B2 n2 d2)⟩
    try simp only[sP]
    refine tH 13 ?_ rfl ?_ ?_;all_goals (try (
     intro w hSw;obtain⟨y1,y2,hS2⟩:=hSw;have jl:=hS2.lt;have j12:=hS2.c 12;go_simp<;>(try with_reducible rfl)))
    try simp only[sP]
    refine oH 14 rfl fun K hK=>?_
    go_simp;(try go_wp2_with fail);refine hK.q ?_ fun hh8=>?_
    ·exact⟨.slice B1 n1 d1,.slice B2 n2 d2,(((HB2.o _ _ _ HB.o).set_ 10 (.slice B1 n1 d1)).set_ 11 (.slice B2 n2 d2)).set_ 12 (.slice none 0 0)⟩
    try simp only[sP]
    refine dN ?_;go_wp2_with fail;go_meet;exact⟨B1,d1,B2,d2,HFI.o _ _ _ _ _ HB.o⟩
   refine nH rfl fun K hK=>?_
   ·go_simp;(try go_wp2_with fail);refine hK.q ?_ fun hh2=>?_
    ·exact⟨.slice A1 n1 c1,.slice A2 n2 c2,HX1.o.right.blk⟩
    try simp only[sP]
    refine oH 2 rfl fun K hK=>?_
    go_simp;go_at_call 106;refine(HC1.o _ _ HX1.o).mono ?_;rintro e wA ⟨B1,d1,rfl,hs⟩;have HA:=h_ hs;have kA:=HB1.o _ _ hs;have lA:=kA.lt;have fA:=kA.frozen;have p10:=kA.c 10;have p11:=kA.c 11;have p12:=kA.c 12;(try go_wp2_with fail);refine hK.q ?_ fun hh3=>?_
    ·exact⟨.slice A1 n1 c1,.slice A2 n2 c2,HB1.o _ _ HA.o⟩
    try simp only[sP]
    refine tH 9 ?_ rfl ?_ ?_;all_goals (try (
     intro w hSw;obtain⟨y1,y2,hS2⟩:=hSw;have jl:=hS2.lt;have j12:=hS2.c 12;go_simp<;>(try with_reducible rfl)))
    try simp only[sP]
    refine oH 5 rfl fun K hK=>?_
    go_simp;go_at_call 106;refine(HC2.o _ _ (HP2.o _ _ HA.o)).mono ?_;rintro e wB ⟨B2,d2,rfl,hs⟩;have HB:=h_ hs;have kB:=HB2.o _ _ _ hs;have lB:=kB.lt;have fB:=kB.frozen;have r10:=kB.c 10;have r11:=kB.c 11;have r12:=kB.c 12;(try go_wp2_with fail);refine hK.q ?_ fun hh4=>?_
    ·exact⟨.slice A1 n1 c1,.slice A2 n2 c2,HB2.o _ _ _ HB.o⟩
    try simp only[sP]
    refine oH 8 rfl fun K hK=>?_
    go_simp;go_at_call 107;refine(HC3.o _).mono ?_;rintro e wQ ⟨rfl,rfl⟩;(try go_wp2_with fail);refine hK.q ?_ fun hh5=>?_
    ·exact⟨.slice A1 n1 c1,.slice A2 n2 c2,HB2.o _ _ _ HB.o⟩
    try simp only[sP]
    refine oH 10 rfl fun K hK=>?_
    go_simp;(try go_wp2_with fail);refine hK.q ?_ fun hh6=>?_
    ·exact⟨.slice B1 n1 d1,.slice A2 n2 c2,(HB2.o _ _ _ HB.o).set_ 10 (.slice B1 n1 d1)⟩
    try simp only[sP]
    refine tH 11 ?_ rfl ?_ ?_;all_goals (try (
     intro w hSw;obtain⟨y1,y2,hS2⟩:=hSw;have jl:=hS2.lt;have j12:=hS2.c 12;go_simp<;>(try with_reducible rfl)))
    try simp only[sP]
    refine oH 12 rfl fun K hK=>?_
    go_simp;(try go_wp2_with fail);refine hK.q ?_ fun hh7=>?_
    ·exact⟨.slice B1 n1 d1,.slice B2 n2 d2,((HB2.o _ _ _ HB.o).set_ 10 (.slice B1 n1 d1)).set_ 11 (.slice B2 n2 d2)⟩
    try simp only[sP]
    refine tH 13 ?_ rfl ?_ ?_;all_goals (try (
     intro w hSw;obtain⟨y1,y2,hS2⟩:=hSw;have jl:=hS2.lt;have j12:=hS2.c 12;go_simp<;>(try with_reducible rfl)))
    try simp only[sP]
    refine oH 14 rfl fun K hK=>?_
    go_simp;(try go_wp2_with fail);refine hK.q ?_ fun hh8=>?_
    ·exact⟨.slice B1 n1 d1,.slice B2 n2 d2,(((HB2.o _ _ _ HB.o).set_ 10 (.slice B1 n1 d1)).set_ 11 (.slice B2 n2 d2)).set_ 12 (.slice none 0 0)⟩
    try simp only[sP]
    refine dN ?_;go_wp2_with fail;go_meet;exact⟨B1,d1,B2,d2,HFI.o _ _ _ _ _ HB.o⟩
  refine nH rfl fun K hK=>?_
  ·go_simp;(try go_wp2_with fail);refine hK.q ?_ fun hh1=>?_
   ·exact⟨.slice A1 n1 c1,.slice A2 n2 c2,HX1.o.right.blk⟩
   try simp only[sP]
   refine oH 1 rfl fun K hK=>?_
   go_simp;(try go_wp2_with fail);refine hK.q ?_ fun hh2=>?_
   ·exact⟨.slice A1 n1 c1,.slice A2 n2 c2,HX1.o.right.blk⟩
   try simp only[sP]
   refine oH 2 rfl fun K hK=>?_
   go_simp;go_at_call 106;refine(HC1.o _ _ HX1.o).mono ?_;rintro e wA ⟨B1,d1,rfl,hs⟩;have HA:=h_ hs;have kA:=HB1.o _ _ hs;have lA:=kA.lt;have fA:=kA.frozen;have p10:=kA.c 10;have p11:=kA.c 11;have p12:=kA.c 12;(try go_wp2_with fail);refine hK.q ?_ fun hh3=>?_
   ·exact⟨.slice A1 n1 c1,.slice A2 n2 c2,HB1.o _ _ HA.o⟩
   try simp only[sP]
   refine tH 9 ?_ rfl ?_ ?_;all_goals (try (
    intro w hSw;obtain⟨y1,y2,hS2⟩:=hSw;have jl:=hS2.lt;have j12:=hS2.c 12;go_simp<;>(try with_reducible rfl)))
   try simp only[sP]
   refine oH 5 rfl fun K hK=>?_
   go_simp;go_at_call 106;refine(HC2.o _ _ (HP2.o _ _ HA.o)).mono ?_;rintro e wB ⟨B2,d2,rfl,hs⟩;have HB:=h_ hs;have kB:=HB2.o _ _ _ hs;have lB:=kB.lt;have fB:=kB.frozen;have r10:=kB.c 10;have r11:=kB.c 11;have r12:=kB.c 12;(try go_wp2_with fail);refine hK.q ?_ fun hh4=>?_
   ·exact⟨.slice A1 n1 c1,.slice A2 n2 c2,HB2.o _ _ _ HB.o⟩
   try simp only[sP]
   refine oH 8 rfl fun K hK=>?_
   go_simp;go_at_call 107;refine(HC3.o _).mono ?_;rintro e wQ ⟨rfl,rfl⟩;(try go_wp2_with fail);refine hK.q ?_ fun hh5=>?_
   ·exact⟨.slice A1 n1 c1,.slice A2 n2 c2,HB2.o _ _ _ HB.o⟩
   try simp only[sP]
   refine oH 10 rfl fun K hK=>?_
   go_simp;(try go_wp2_with fail);refine hK.q ?_ fun hh6=>?_
   ·exact⟨.slice B1 n1 d1,.slice A2 n2 c2,(HB2.o _ _ _ HB.o).set_ 10 (.slice B1 n1 d1)⟩
   try simp only[sP]
   refine tH 11 ?_ rfl ?_ ?_;all_goals (try (
    intro w hSw;obtain⟨y1,y2,hS2⟩:=hSw;have jl:=hS2.lt;have j12:=hS2.c 12;go_simp<;>(try with_reducible rfl)))
   try simp only[sP]
   refine oH 12 rfl fun K hK=>?_
   go_simp;(try go_wp2_with fail);refine hK.q ?_ fun hh7=>?_
   ·exact⟨.slice B1 n1 d1,.slice B2 n2 d2,((HB2.o _ _ _ HB.o).set_ 10 (.slice B1 n1 d1)).set_ 11 (.slice B2 n2 d2)⟩
   try simp only[sP]
   refine tH 13 ?_ rfl ?_ ?_;all_goals (try (
    intro w hSw;obtain⟨y1,y2,hS2⟩:=hSw;have jl:=hS2.lt;have j12:=hS2.c 12;go_simp<;>(try with_reducible rfl)))
   try simp only[sP]
   refine oH 14 rfl fun K hK=>?_
   go_simp;(try go_wp2_with fail);refine hK.q ?_ fun hh8=>?_
   ·exact⟨.slice B1 n1 d1,.slice B2 n2 d2,(((HB2.o _ _ _ HB.o).set_ 10 (.slice B1 n1 d1)).set_ 11 (.slice B2 n2 d2)).set_ 12 (.slice none 0 0)⟩
   try simp only[sP]
   refine dN ?_;go_wp2_with fail;go_meet;exact⟨B1,d1,B2,d2,HFI.o _ _ _ _ _ HB.o⟩
 case rest =>
  obtain⟨B1,d1,B2,d2,HW⟩:=hcut;have kN:=HW.o.right.blk;have kM:=HW.o.blk;have lN:=kN.lt;have lM:=kM.lt;have fM:=kM.frozen;have a0:=kN.c 0;have a1:=kN.c 1;have a2:=kN.c 2;have a3:=kN.c 3;have a4:=kN.c 4;have a5:=kN.c 5;have a6:=kN.c 6;have a7:=kN.c 7;have a8:=kN.c 8;have a9:=kN.c 9;have a10:=kN.c 10;have a11:=kN.c 11;have a12:=kN.c 12;have a13:=kN.c 13;have z0:=kM.c 0;have z1:=kM.c 1;have z2:=kM.c 2;have z3:=kM.c 3;have z4:=kM.c 4;have z5:=kM.c 5;have z6:=kM.c 6;have z7:=kM.c 7;have z8:=kM.c 8;have z9:=kM.c 9;have z10:=kM.c 10;have z11:=kM.c 11;have z12:=kM.c 12;have z13:=kM.c 13;have HZ:=h_ (HP14.o _ B1 d1 B2 d2 _ HW.o);go_wp2;refine Ug ?_ HZ.o.blk _ ?_
  ·simp
  ·exact⟨B1,d1,B2,d2,rfl,HZ.o.right.right⟩
theorem Ru (l:List PRe):∀u∈l.flatMap reV,u.oneCell'=true:=by
 intro u hu;obtain⟨r,_,hr⟩:=List.mem_flatMap.1 hu;simp only[reV,List.mem_cons,List.not_mem_nil,or_false] at hr;rcases hr with rfl|rfl|rfl|rfl<;>rfl
theorem Jh (ω w:World)(F:HP)(b:Nat)(s:PSt)(t:PTh)(h:Sat ω w (thH b s t*F))(hn:t.results.length≤1000000):
  Calls prog 44 #[.pointer b] w (RetR ω (thH b s t*F) 66 4 t.results.length (t.results.flatMap reV)):=by
 obtain⟨D,h⟩:=Ca h;have hb:=AE h;have lt:=hb.lt;have hr:=LT h;obtain⟨A,c,hA⟩:=hr.rowForm;have k20:w.cell? (κ b 20)=some (.slice A t.results.length c):=by rw[←hA];exact hb.cell 20
 have HC:Hid (Calls prog 72 #[.slice A t.results.length c] w (RetR ω (thH b s t*F) 66 4 t.results.length (t.results.flatMap reV))):=h_ (by
  rw[hA] at hr;refine(JE ω w _ A t.results.length c (t.results.flatMap reV) hr hn (Ru _)).mono ?_;rintro e w2 ⟨B,d,rfl,h2⟩;refine⟨B,d,rfl,?_⟩;rw[←hA] at h2;have h3:Sat ω w2 (thX b s t D t.job*(row 66 4 (.slice B t.results.length d) t.results.length (t.results.flatMap reV)*F)):=MU (h2.perm (by ac_rfl))
  exact(Ak h3).swap)
 generalize t.results.length=n at *
 clear h hb hr;go_enter func44,ntmps44;go_wp2_with (go_at_call 72;refine(HC.o).mono ?_;rintro e w1 ⟨B,d,rfl,hs⟩;have HZ:=h_ hs;clear hs);go_ret;exact⟨_,_,rfl,HZ.o⟩
theorem Ho:∀(ps:List (Value×Value)) (ts:List PTo),toVs ps ts=(ps.zip ts).flatMap fun x=>toV x.1 x.2
 | [],_=>rfl
 |_::_,[]=>rfl
 |p::ps,t::ts=>by
  show toV p t++toVs ps ts=_
  rw[Ho ps ts];rfl
theorem Hq:∀(ps:List (Value×Value)) (ts:List PTo),ps.length=ts.length→∀k (hk:k<ts.length),∃q R,ps[k]?=some q∧toAll ps ts=toH q ts[k]*R
 | [],[],_,k,hk=>by simp at hk
 |p::ps,t::ts,h,0,_=>⟨p,toAll ps ts,rfl,rfl⟩
 |p::ps,t::ts,h,k+1,hk=>by
  obtain⟨q,R,h1,h2⟩:=Hq ps ts (by simpa using h) k (by simpa using hk)
  refine⟨q,toH p t*R,by simpa using h1,?_⟩
  show toH p t*toAll ps ts=_
  rw[h2];simp only[List.getElem_cons_succ];ac_rfl
theorem Ji {ω w:World}{F:HP}{b:Nat}{s:PSt}{t:PTh}{D:ThD}(h:Sat ω w (thX b s t D t.job*F)){k:Nat}(hk:k<t.past.length):
  ∃g A1 c1 A2 c2 R,D.pv.ownBlock=some g∧(∃c,D.pv=.slice (some ⟨g,0,none⟩) t.past.length c)∧g<w.heap.size∧(∀j,j<14→w.cell? (κ g (k*14+j))=(toV (.slice A1 t.past[k].reads.length c1,.slice A2 t.past[k].cells.length c2) t.past[k])[j]?) ∧
   thX b s t D t.job=toH (.slice A1 t.past[k].reads.length c1,.slice A2 t.past[k].cells.length c2) t.past[k]*R:=by
 obtain⟨h1,h2⟩:=Co h;obtain⟨q,R,h3,h4⟩:=Hq D.ps t.past h1 k hk;obtain⟨q1,q2⟩:=q;have e:thX b s t D t.job=toH (q1,q2) t.past[k]*(bk b 138 (thC s t D t.job)*(nowH s D.nb t.now*(thJ t.jobs D*(fact (D.ps.length=t.past.length)*(row 52 14 D.pv t.past.length (toVs D.ps t.past)*(R*(row 66 4 D.rv t.results.length (t.results.flatMap reV)*bk D.lb 188 #[.slice none 0 0]))))))):=by
  unfold thX thT;rw[h4];ac_rfl
 have h5:Sat ω w (row 54 2 q1 t.past[k].reads.length (vS t.past[k].reads)*(row 54 2 q2 t.past[k].cells.length (vS t.past[k].cells)*((bk b 138 (thC s t D t.job)*(nowH s D.nb t.now*(thJ t.jobs D*(fact (D.ps.length=t.past.length)*(row 52 14 D.pv t.past.length (toVs D.ps t.past)*(R*(row 66 4 D.rv t.results.length (t.results.flatMap reV)*bk D.lb 188 #[.slice none 0 0])))))))*F))):=h.perm (by rw[e];unfold toH;ac_rfl)
 obtain⟨A1,c1,rfl⟩:=h5.rowForm;obtain⟨A2,c2,rfl⟩:=h5.right.rowForm;obtain⟨A,c,hpv⟩:=h2.rowForm;rw[hpv] at h2;have hzl:(D.ps.zip t.past).length=t.past.length:=by simp[h1]
 rw[Ho] at h2;obtain⟨l,hl⟩:∃l,D.ps.zip t.past=l:=⟨_,rfl⟩;rw[hl] at h2 hzl;rw[←hzl] at h2;obtain⟨g,h6,h7,h8⟩:=h2.rowAt (l:=l) (f:=fun x=>toV x.1 x.2) (size:=14) (fun _=>rfl) ((.bool false,.bool false),⟨0,0,0,0,0,0,0,0,0,[],[],[]⟩) (i:=k) (by rw[hzl];exact hk)
 subst h6;refine⟨g,A1,c1,A2,c2,_,by rw[hpv];rfl,⟨c,hpv⟩,h7,fun j hj=>?_,e⟩
 rw[h8 j hj];have e9:l.getD k ((.bool false,.bool false),⟨0,0,0,0,0,0,0,0,0,[],[],[]⟩)=((.slice A1 t.past[k].reads.length c1,.slice A2 t.past[k].cells.length c2),t.past[k]):=by
  rw[←hl,gD,(List.getElem?_zip_eq_some (z:=((.slice A1 t.past[k].reads.length c1,.slice A2 t.past[k].cells.length c2),t.past[k]))).2 ⟨h3,List.getElem?_eq_getElem hk⟩];rfl
 rw[e9]
def AtsP (ω:World)(X:HP)(ts:List PTo)(k:Nat)(A:Option Addr)(c:Nat)(w:World):Prop:=∃qs:List (Value×Value),qs.length=k∧Sat ω w (row 52 14 (.slice A k c) k (toVs qs (ts.take k))*(toAll qs (ts.take k)*X))
theorem AtsP.row {ω w:World}{X:HP}{ts:List PTo}{k:Nat}{A:Option Addr}{c:Nat}(h:AtsP ω X ts k A c w):∃xs G,Sat ω w (row 52 14 (.slice A k c) k xs*(G*X))∧∀(w':World) A' c' B1 B2 d1 d2 T,ts[k]?=some T→Sat ω w' (row 52 14 (.slice A' (k+1) c') (k+1) (xs++toV (.slice B1 T.reads.length d1,.slice B2 T.cells.length d2) T)*(G*(toH (.slice B1 T.reads.length d1,.slice B2 T.cells.length d2) T*X)))→AtsP ω X ts (k+1) A' c' w':=by
 obtain⟨qs,hq,h1⟩:=h;refine⟨_,_,h1,fun w' A' c' B1 B2 d1 d2 T hT h2=>⟨qs++[(.slice B1 T.reads.length d1,.slice B2 T.cells.length d2)],by simp[hq],?_⟩⟩
 have hk:k<ts.length:=(List.getElem?_eq_some_iff.1 hT).1;have e0:ts.take (k+1)=ts.take k++[T]:=by
  rw[List.take_add_one,hT];rfl
 obtain⟨e1,e2⟩:=DN (.slice B1 T.reads.length d1,.slice B2 T.cells.length d2) T qs (ts.take k) (by simp[hq];omega)
 rw[e0,e1,e2];exact h2.perm (by ac_rfl)
theorem AtsP.drewN {ω w:World}{X:HP}{ts:List PTo}{k:Nat}{A:Option Addr}{c:Nat}(h:AtsP ω X ts k A c w)(q:Nat):AtsP ω X ts k A c (w.drewN q):=by
 obtain⟨qs,h1,h2⟩:=h;exact⟨qs,h1,h2.drewN q⟩
theorem Ht [Inhabited PowO](ω w:World)(F:HP)(b:Nat)(s:PSt)(t:PTh)(h:Sat ω w (thH b s t*(powH*F)))(hst:t.state=1∨t.state=2∨t.state=3∨t.state=4∨t.state=6)(hnow:t.state=1→∃x,t.now=some x∧EndOk x)(hpl:t.past.length≤100000)(hpo:∀T∈t.past,T.reads.length≤1000∧T.cells.length≤1000):
  Calls prog 41 #[.pointer b] w fun e w'=>∃A c,e=.returned (.slice A t.attempts.length c)∧AtsP ω (thH b s t*(powH*F)) t.attempts t.attempts.length A c w':=by
 obtain⟨D,h⟩:=Ca h;have hb:=AE h;have kf:=hb.frozen;have kl:=hb.lt;obtain⟨n,hn⟩:∃n,t.past.length=n:=⟨_,rfl⟩;obtain⟨st,hs⟩:∃st,t.state=st:=⟨_,rfl⟩;obtain⟨X,hX⟩:∃X:HP,X=thX b s t D t.job*(powH*F):=⟨_,rfl⟩;obtain⟨_,hrow⟩:=Co h;obtain⟨Ap,cp,hpv⟩:=hrow.rowForm;rw[hn] at hpl hpv;have k19:w.cell? (κ b 19)=some (.slice Ap n cp):=by rw[←hpv];exact hb.cell 19
 obtain⟨i0,hi0,hz⟩:=Option.map_eq_some_iff.1 Eu;simp only[Prod.mk.injEq] at hz;obtain⟨hz0,hz1,hz2⟩:=hz;have HI:=h_ hi0;have HZ0:=h_ hz0;have HZ1:=h_ hz1;have HZ2:=h_ hz2;have HON:Hid (∀(thread job try_ kind err begin stamp born ended:Nat) (sl:ByteArray) (B1 B2:Option Addr) (n1 d1 n2 d2:Nat),∀u∈([.int .i64 thread,.int .i64 job,.int .i64 try_,.bool false,.int .i64 kind,.int .i64 err,.int .u64 begin,.int .u64 stamp,.int .i64 born,.int .i64 ended,.slice B1 n1 d1,.slice B2 n2 d2,.slice none 0 0,.string sl]:List Value),u.oneCell'=true):=h_ (by intro thread job try_ kind err begin stamp born ended sl B1 B2 n1 d1 n2 d2 u hu;simp at hu;rcases hu with rfl|rfl|rfl|rfl|rfl|rfl|rfl|rfl|rfl|rfl|rfl|rfl|rfl|rfl<;>rfl)
 have HRD:Hid (∀(w1:World) (thread job try_ kind err begin stamp born ended:Nat) (sl:ByteArray) (B1 B2:Option Addr) (n1 d1 n2 d2:Nat),Reads (w1.alloc (.cells #[thread,job,try_,.bool false,kind,err,υ begin,υ stamp,born,ended,.slice B1 n1 d1,.slice B2 n2 d2,.slice none 0 0,.string sl] 52)) (w1.heap.size+1) 14 (some ⟨w1.heap.size,0,none⟩) 1 [.int .i64 thread,.int .i64 job,.int .i64 try_,.bool false,.int .i64 kind,.int .i64 err,.int .u64 begin,.int .u64 stamp,.int .i64 born,.int .i64 ended,.slice B1 n1 d1,.slice B2 n2 d2,.slice none 0 0,.string sl]):=h_ (fun w1 thread job try_ kind err begin stamp born ended sl B1 B2 n1 d1 n2 d2=>by
  have h9:=Reads.of_blk (size:=14) (n:=1) (Blk.new w1 52 #[thread,job,try_,.bool false,kind,err,υ begin,υ stamp,born,ended,.slice B1 n1 d1,.slice B2 n2 d2,.slice none 0 0,.string sl]) rfl;rw[World.size_alloc] at h9;exact h9)
 have HRO:Hid (∀k (hk:k<n) (w1:World) A c,AtsP ω X t.attempts k A c w1→∃(thread job try_ kind err begin stamp born ended:Nat) (sl:ByteArray) (A1 A2:Option Addr) (n1 c1 n2 c2 g:Nat) (xs:List Value),Ap=some ⟨g,0,none⟩∧g<w1.heap.size∧(w1.cell? (κ g (k*14))=some (.int .i64 thread)∧w1.cell? (κ g (k*14+1))=some (.int .i64 job)∧w1.cell? (κ g (k*14+2))=some (.int .i64 try_)∧w1.cell? (κ g (k*14+3))=some (.bool false)∧w1.cell? (κ g (k*14+4))=some (.int .i64 kind)∧w1.cell? (κ g (k*14+5))=some (.int .i64 err)∧w1.cell? (κ g (k*14+6))=some (.int .u64 begin)∧w1.cell? (κ g (k*14+7))=some (.int .u64 stamp)∧w1.cell? (κ g (k*14+8))=some (.int .i64 born)∧w1.cell? (κ g (k*14+9))=some (.int .i64 ended)∧w1.cell? (κ g (k*14+10))=some (.slice A1 n1 c1)∧w1.cell? (κ g (k*14+11))=some (.slice A2 n2 c2)∧w1.cell? (κ g (k*14+12))=some (.slice none 0 0)∧w1.cell? (κ g (k*14+13))=some (.string sl))∧(∃Z,Sat ω w1 (row 52 14 (.slice A k c) k xs*Z)) ∧
   Calls prog 69 #[.agg #[thread,job,try_,.bool false,kind,err,υ begin,υ stamp,born,ended,.slice A1 n1 c1,.slice A2 n2 c2,.slice none 0 0,.string sl]] (w1.alloc (.cells #[thread,job,try_,.bool false,kind,err,υ begin,υ stamp,born,ended,.slice A1 n1 c1,.slice A2 n2 c2,.slice none 0 0,.string sl] 52)) (fun e w'=>∃B1 d1 B2 d2,e=.returned (.agg #[thread,job,try_,.bool false,kind,err,υ begin,υ stamp,born,ended,.slice B1 n1 d1,.slice B2 n2 d2,.slice none 0 0,.string sl])∧∃Z,Sat ω w' (row 52 14 (.slice A k c) k xs*Z)∧∀w'' A' c',Sat ω w'' (row 52 14 (.slice A' (k+1) c') (k+1) (xs++[.int .i64 thread,.int .i64 job,.int .i64 try_,.bool false,.int .i64 kind,.int .i64 err,.int .u64 begin,.int .u64 stamp,.int .i64 born,.int .i64 ended,.slice B1 n1 d1,.slice B2 n2 d2,.slice none 0 0,.string sl])*Z)→AtsP ω X t.attempts (k+1) A' c' w'')):=h_ (fun k hk w1 A c h1=>by
  obtain⟨xs,G,h2,h3⟩:=h1.row;have hk2:k<t.past.length:=by omega
  have h2':Sat ω w1 (thX b s t D t.job*(powH*F*(row 52 14 (.slice A k c) k xs*G))):=h2.perm (by rw[hX];ac_rfl)
  obtain⟨g,A1,c1,A2,c2,R,_,⟨c',hpv'⟩,hg,hcell,hXe⟩:=Ji h2' hk2;have hAp:Ap=some ⟨g,0,none⟩:=by rw[hpv] at hpv';injection hpv'
  have hat:t.attempts[k]?=some t.past[k]:=by
   unfold PTh.attempts;rw[List.getElem?_append_left hk2,List.getElem?_eq_getElem hk2]
  have hlen:=hpo t.past[k] (List.getElem_mem hk2);obtain⟨T,hT⟩:∃T,t.past[k]=T:=⟨_,rfl⟩;rw[hT] at hcell hXe hat hlen;refine⟨T.thread,T.job,T.try_,T.kind,T.err,T.begin,T.stamp,T.born,T.ended,⟨T.slate.toArray⟩,A1,A2,T.reads.length,c1,T.cells.length,c2,g,xs,hAp,hg,?_,⟨_,h2⟩,?_⟩
  ·exact⟨hcell 0 (by omega),hcell 1 (by omega),hcell 2 (by omega),hcell 3 (by omega),hcell 4 (by omega),hcell 5 (by omega),hcell 6 (by omega),hcell 7 (by omega),hcell 8 (by omega),hcell 9 (by omega),hcell 10 (by omega),hcell 11 (by omega),hcell 12 (by omega),hcell 13 (by omega)⟩
  ·have h4:Sat ω (w1.alloc (.cells #[T.thread,T.job,T.try_,.bool false,T.kind,T.err,υ T.begin,υ T.stamp,T.born,T.ended,.slice A1 T.reads.length c1,.slice A2 T.cells.length c2,.slice none 0 0,.string ⟨T.slate.toArray⟩] 52)) (row 54 2 (.slice A1 T.reads.length c1) T.reads.length (vS T.reads)*(row 54 2 (.slice A2 T.cells.length c2) T.cells.length (vS T.cells)*(R*(powH*F*(row 52 14 (.slice A k c) k xs*G))))):=(h2'.junk _).perm (by rw[hXe];unfold toH;ac_rfl)
   refine(MT ω _ _ T.thread T.job T.try_ T.kind T.err T.begin T.stamp T.born T.ended ⟨T.slate.toArray⟩ A1 A2 T.reads.length c1 T.cells.length c2 T.reads T.cells (by omega) (by omega) h4).mono ?_
   rintro e w2 ⟨B1,d1,B2,d2,rfl,h5⟩;refine⟨B1,d1,B2,d2,rfl,G*(toH (.slice B1 T.reads.length d1,.slice B2 T.cells.length d2) T*X),h5.perm (by rw[hX,hXe];unfold toH;simp only;ac_rfl),fun w'' A' c'' h6=>?_⟩
   exact h3 w'' A' c'' B1 B2 d1 d2 T hat h6)
 have HEND:Hid (∀(w1:World) A c,AtsP ω X t.attempts n A c w1→Sat ω w1 (thX b s t D t.job*(powH*F))∧((st≠1∨(∃x,t.now=some x∧x.begun=false))→t.attempts.length=n)):=h_ (fun w1 A c h1=>by
  obtain⟨xs,G,h2,_⟩:=h1.row;refine⟨by rw[hX] at h2;exact h2.right.right,fun h3=>?_⟩
  unfold PTh.attempts;rcases h3 with h3|⟨x,hx,hxb⟩
  ·rw[if_neg (by omega),List.append_nil,hn]
  ·rw[List.length_append,hn];split
   ·rw[hx];simp only;rw[if_neg (by simp[hxb])];rfl
   ·rfl)
 have HSTART:Hid (AtsP ω X t.attempts 0 none 0 w):=h_ ⟨[],rfl,by
  have h1:=h.nil 52 14;rw[hX];exact h1.perm (by show _=_*(emp*_);rw[AD];rfl)⟩
 have HBK:Hid (∀(w1:World),Sat ω w1 (thX b s t D t.job*(powH*F))→Blk w1 b 138 (thC s t D t.job)):=h_ (fun w1 h1=>AE h1)
 have HFIN:Hid (∀(w1:World) A c k,t.attempts.length=k→AtsP ω X t.attempts k A c w1→AtsP ω (thH b s t*(powH*F)) t.attempts k A c w1):=h_ (fun w1 A c k _ h1=>by
  obtain⟨qs,h2,h3⟩:=h1;refine⟨qs,h2,?_⟩;rw[hX] at h3;have h4:Sat ω w1 (thX b s t D t.job*(powH*F*(row 52 14 (.slice A k c) k (toVs qs (t.attempts.take k))*toAll qs (t.attempts.take k)))):=h3.perm (by ac_rfl)
  exact(Ak h4).perm (by ac_rfl))
 have HTL:Hid (∀x,t.now=some x→st=1→EndOk x→x.begun=true→t.attempts.length=n+1∧∀(w1:World) A c,AtsP ω X t.attempts n A c w1→∃(thread job try_ kind err begin stamp born ended:Nat) (sl:ByteArray) (n1 n2:Nat) (xs:List Value),
   Calls prog 70 #[.pointer b,ι 0] w1 (fun e w'=>∃B1 d1 B2 d2,e=.returned (.agg #[thread,job,try_,.bool false,kind,err,υ begin,υ stamp,born,ended,.slice B1 n1 d1,.slice B2 n2 d2,.slice none 0 0,.string sl])∧∃Z,Sat ω w' (row 52 14 (.slice A n c) n xs*Z)∧∀w'' A' c',Sat ω w'' (row 52 14 (.slice A' (n+1) c') (n+1) (xs++[.int .i64 thread,.int .i64 job,.int .i64 try_,.bool false,.int .i64 kind,.int .i64 err,.int .u64 begin,.int .u64 stamp,.int .i64 born,.int .i64 ended,.slice B1 n1 d1,.slice B2 n2 d2,.slice none 0 0,.string sl])*Z)→AtsP ω X t.attempts (n+1) A' c' w'')):=h_ (fun x hx h1 hok hbx=>by
  have hatt:t.attempts=t.past++[x.toldOf t 0]:=by
   unfold PTh.attempts;rw[if_pos (by omega),hx];simp only;rw[if_pos hbx]
  refine⟨by rw[hatt,List.length_append,hn];rfl,fun w1 A c h2=>?_⟩
  obtain⟨xs,G,h3,h4⟩:=h2.row;obtain⟨T,hT⟩:∃T,x.toldOf t 0=T:=⟨_,rfl⟩;have hat:t.attempts[n]?=some T:=by
   rw[hatt,hT,List.getElem?_append_right (by omega),hn];simp
  refine⟨T.thread,T.job,T.try_,T.kind,T.err,T.begin,T.stamp,T.born,T.ended,⟨T.slate.toArray⟩,T.reads.length,T.cells.length,xs,?_⟩;have h5:Sat ω w1 (thX b s t D t.job*(powH*(F*(row 52 14 (.slice A n c) n xs*G)))):=h3.perm (by rw[hX];ac_rfl)
  refine(LS ω w1 _ b s t D x hx h5 hok.v hok.regs hok.out hok.items 0).mono ?_;rintro e w2 ⟨q,rfl,h6⟩;rw[hT] at h6 ⊢;obtain⟨q1,q2⟩:=q;have h7:Sat ω w2 (row 54 2 q1 T.reads.length (vS T.reads)*(row 54 2 q2 T.cells.length (vS T.cells)*(thX b s t D t.job*(powH*(F*(row 52 14 (.slice A n c) n xs*G)))))):=h6.perm (by unfold toH;simp only;ac_rfl)
  obtain⟨B1,d1,rfl⟩:=h7.rowForm;obtain⟨B2,d2,rfl⟩:=h7.right.rowForm;refine⟨B1,d1,B2,d2,rfl,G*(toH (.slice B1 T.reads.length d1,.slice B2 T.cells.length d2) T*X),h6.perm (by rw[hX];ac_rfl),fun w'' A' c'' h8=>h4 w'' A' c'' B1 B2 d1 d2 T hat h8⟩)
 have HBG:Hid (∀x,t.now=some x→∀(w1:World),Sat ω w1 (thX b s t D t.job*(powH*F))→Calls prog 61 #[.pointer D.nb] w1 fun e w'=>e=.returned (.tuple #[υ x.begin,.bool x.begun])∧∃q,w'=w1.drewN q):=h_ (fun x hx w1 h1=>by
  obtain⟨G,g1,_⟩:=Bp h1 hx;exact DI ω w1 G D.nb s x g1)
 have HNV:Hid (∀x,t.now=some x→nowV D.nb t.now=pV D.nb):=h_ (fun x hx=>by rw[hx];rfl)
 have HNW:Hid (st=1→∃x,t.now=some x∧EndOk x):=h_ (fun h1=>hnow (hs.trans h1))
 have HS:=h_ hs;obtain⟨m,hm⟩:∃m,t.attempts.length=m:=⟨_,rfl⟩;rw[hm] at HEND HTL ⊢;have HM:=h_ hm;clear h hb hrow hpv hi0 hz0 hz1 hz2 hn hst hnow hpo hs hm hX;go_enter func41,ntmps41;go_wp2;go_loopw [3,5,13] (fun v3 _ i wr=>∃(k:Nat) (A:Option Addr) (c:Nat),k≤n∧i=.int .i64 k∧v3=.slice A k c∧Hid (AtsP ω X t.attempts k A c wr)) (fun _ _ i _=>n-(intOf i).toNat)
 case atStart=>exact⟨0,none,0,by omega,rfl,rfl,HSTART.o⟩
 case round =>
  obtain⟨k,A,c,hk,rfl,rfl,HA⟩:=hrel;by_cases hlt:k<n
  ·obtain⟨thread,job,try_,kind,err,begin,stamp,born,ended,sl,A1,A2,n1,c1,n2,c2,g,xs,rfl,hg,⟨l0,l1,l2,l3,l4,l5,l6,l7,l8,l9,l10,l11,l12,l13⟩,_,hco⟩:=HRO.o k hlt wr A c HA.o;have HCO:=h_ hco;clear hco;go_wp2_with (first
    |(go_at_call 69;refine(HCO.o).mono ?_;rintro e w1 ⟨B1,d1,B2,d2,rfl,Z,hs,hf⟩;have HSa:=h_ hs;have HF:=h_ hf;clear hs hf)
    |(at_builtin;refine AB rfl _ _ 47 rfl 52 i0 _ 14 168 underlying47 HI.o HZ0.o HZ1.o HZ2.o rfl (by decide) _ _ _ rfl (HSa.o.junk _) _ _ _ _ _ rfl (HRD.o _ _ _ _ _ _ _ _ _ _ _ _ _ _ _ _ _) (HON.o _ _ _ _ _ _ _ _ _ _ _ _ _ _ _ _) (by unfold maxLen;first|done|omega) (by first|done|omega) ?_;intro A' c' w2 hs;have HY:=h_ (HF.o _ _ _ hs);clear hs))
   exact⟨⟨k+1,_,_,by omega,by go_num,rfl,HY.o⟩,by simp[intOf];omega⟩
  ·obtain rfl:k=n:=by omega
   obtain⟨hE1,hE2⟩:=HEND.o wr A c HA.o;have HSX:=h_ hE1;have kB:=HBK.o _ hE1;have qf:=kB.frozen;have ql:=kB.lt;have q11:wr.cell? (κ b 11)=some (.int .i64 st):=by rw[←HS.o];exact kB.cell 11
   have q16':wr.cell? (κ b 16)=some (nowV D.nb t.now):=kB.cell 16;have HQ16:=h_ q16';clear hE1 kB q16';by_cases h1:st=1
   ·have d1:((st:Int)==1)=true:=by rw[h1];rfl
    obtain⟨x,hx,hok⟩:=HNW.o h1;have q16:wr.cell? (κ b 16)=some (.pointer D.nb):=by have e:=HQ16.o;rw[HNV.o x hx] at e;exact e
    have HB:=h_ (HBG.o x hx wr HSX.o);cases hbx:x.begun
    ·have hmk:=hE2 (.inr ⟨x,hx,hbx⟩);subst hmk;rw[hbx] at HB;have HZ:Hid (∀q,AtsP ω (thH b s t*(powH*F)) t.attempts t.attempts.length A c (wr.drewN q)):=h_ (fun q=>by rw[HM.o];exact(HFIN.o wr A c _ HM.o HA.o).drewN q)
     clear hE2 hx hbx hok h1 HQ16 HEND HTL HRO;go_wp2_with (go_at_call 61;refine(HB.o).mono ?_;rintro e w1 ⟨rfl,q,rfl⟩);go_ret;exact⟨A,c,rfl,by have:=HZ.o q;rw[HM.o] at this;exact this⟩
    ·obtain⟨hmk,htl⟩:=HTL.o x hx h1 hok hbx;subst hmk;rw[hbx] at HB;have HTX:Hid (∀q,∃(thread job try_ kind err begin stamp born ended:Nat) (sl:ByteArray) (n1 n2:Nat) (xs:List Value),Calls prog 70 #[.pointer b,ι 0] (wr.drewN q) (fun e w'=>∃B1 d1 B2 d2,e=.returned (.agg #[thread,job,try_,.bool false,kind,err,υ begin,υ stamp,born,ended,.slice B1 n1 d1,.slice B2 n2 d2,.slice none 0 0,.string sl])∧∃Z,Sat ω w' (row 52 14 (.slice A k c) k xs*Z)∧∀w'' A' c',Sat ω w'' (row 52 14 (.slice A' (k+1) c') (k+1) (xs++[.int .i64 thread,.int .i64 job,.int .i64 try_,.bool false,.int .i64 kind,.int .i64 err,.int .u64 begin,.int .u64 stamp,.int .i64 born,.int .i64 ended,.slice B1 n1 d1,.slice B2 n2 d2,.slice none 0 0,.string sl])*Z)→AtsP ω X t.attempts (k+1) A' c' w'')):=h_ (fun q=>htl (wr.drewN q) A c (HA.o.drewN q))
     clear hE2 hx hbx hok h1 HQ16 HEND HTL HRO htl;go_wp2_with (first
      |(go_at_call 61;refine(HB.o).mono ?_;rintro e w1 ⟨rfl,q,rfl⟩;obtain⟨thread,job,try_,kind,err,begin,stamp,born,ended,sl,n1,n2,xs,hto⟩:=HTX.o q;have HT9:=h_ hto;clear hto)
      |(go_at_call 70;refine(HT9.o).mono ?_;rintro e w1 ⟨B1,d1,B2,d2,rfl,Z,hs,hf⟩;have HSa:=h_ hs;have HF:=h_ hf;clear hs hf)
      |(at_builtin;refine AB rfl _ _ 47 rfl 52 i0 _ 14 168 underlying47 HI.o HZ0.o HZ1.o HZ2.o rfl (by decide) _ _ _ rfl (HSa.o.junk _) _ _ _ _ _ rfl (HRD.o _ _ _ _ _ _ _ _ _ _ _ _ _ _ _ _ _) (HON.o _ _ _ _ _ _ _ _ _ _ _ _ _ _ _ _) (by unfold maxLen;first|done|omega) (by first|done|omega) ?_;intro A' c' w2 hs;have HY:=h_ (HF.o _ _ _ hs);clear hs))
     go_ret;exact⟨_,_,rfl,HFIN.o _ _ _ _ HM.o HY.o⟩
   ·have d1:((st:Int)==1)=false:=by rw[beq_eq_false_iff_ne];omega
    have hmk:=hE2 (.inl h1);subst hmk;have HZ:=h_ (HFIN.o wr A c _ HM.o HA.o);clear hE2 h1 HQ16 HEND HTL HRO;go_wp2;go_ret;exact⟨A,c,rfl,HZ.o⟩
end Go.Proofs.YtfodmgaliclhfaaGreatDoor
