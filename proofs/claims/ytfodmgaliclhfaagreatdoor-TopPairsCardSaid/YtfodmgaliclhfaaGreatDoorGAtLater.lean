/- Lemmas for TopPairs; no conditions. -/
import Derived.Test.YtfodmgaliclhfaaGreatDoorGIpAsk
import Derived.Deep.RegionHeld3
import Derived.Deep.RegionHeld2
namespace Go.Proofs.YtfodmgaliclhfaaGreatDoor
set_option linter.unusedVariables false
set_option linter.unusedSimpArgs false
set_option maxRecDepth 100000
set_option maxHeartbeats 8000000
open Go.RowKit
section
section
variable {ω w : World} {F : HP} {b : Nat} {s : PSt} {x : PAt} {D : AtD}
theorem at_vw (h:Sat ω w (atX b s x D*F)):∃G,Sat ω w (vwH D.vb x.v*G)∧∀w' P v',Sat ω w' (P*(vwH D.vb v'*G))→Sat ω w' (P*(atX b s { x with v:=v' } D*F)):=by
 unfold atX at h;have h1:Sat ω w (itH D.rb D.vb x.run x.v*(bk b 198 (atC s x D)*(rdH D.db x.reads*(inH D x.inner*F)))):=h.perm (by ac_rfl)
 obtain⟨ID,hID,hx⟩:=itH_of h1;refine⟨_,hx.swap,fun w' P v' h2=>?_⟩
 have h3:=itH_to hID (h2.perm (by ac_rfl:_=itX D.rb x.run ID*(vwH D.vb v'*(bk b 198 (atC s x D)*(rdH D.db x.reads*(inH D x.inner*F))*P))))
 unfold atX;exact h3.perm (by ac_rfl)
theorem at_rd (h:Sat ω w (atX b s x D*F)):∃G,Sat ω w (rdH D.db x.reads*G)∧∀w' P l,Sat ω w' (P*(rdH D.db l*G))→Sat ω w' (P*(atX b s { x with reads:=l } D*F)):=by
 unfold atX at h;refine⟨bk b 198 (atC s x D)*(itH D.rb D.vb x.run x.v*(inH D x.inner*F)),h.perm (by ac_rfl),fun w' P l h2=>?_⟩
 unfold atX;exact h2.perm (by ac_rfl)
theorem at_it (h:Sat ω w (atX b s x D*F)):∃G,Sat ω w (itH D.rb D.vb x.run x.v*G)∧∀w' P r v',Sat ω w' (P*(itH D.rb D.vb r v'*G))→Sat ω w' (P*(atX b s { x with run:=r,v:=v' } D*F)):=by
 unfold atX at h;refine⟨bk b 198 (atC s x D)*(rdH D.db x.reads*(inH D x.inner*F)),h.perm (by ac_rfl),fun w' P r v' h2=>?_⟩
 unfold atX;exact h2.perm (by ac_rfl)
theorem at_put1 {y:PAt}(h:Sat ω w (atH b s x*F))(i:Nat)(u:Value)(e:∀D,(atC s x D).setIfInBounds i u=atC s y D)(h1:y.run=x.run)(h2:y.v=x.v)(h3:y.reads=x.reads)(h4:y.inner=x.inner):Sat ω (w.setCell ⟨b,i,none⟩ u) (atH b s y*F):=by
 obtain⟨D,hx⟩:=atH_of h;unfold atX at hx;refine atH_to (D:=D) ?_;unfold atX;rw[h1,h2,h3,h4];exact(hx.assoc.put i u (e D)).assoc'
end
theorem at_seen (ω w:World)(F:HP)(b:Nat)(s:PSt)(x:PAt)(h:Sat ω w (atH b s x*F))(hl:x.reads.length≤1000):
  Calls Tryz.prog 67 #[.pointer (some ⟨b,0,none⟩)] w (RetR ω (atH b s x*F) 148 2 x.reads.length (vS x.reads)):=by
 obtain⟨D,hx⟩:=atH_of h;have hb:=atX_blk hx;have c1:w.cell? ⟨b,13,none⟩=some (.pointer (some ⟨D.db,0,none⟩)):=hb.cell 13;have lt:=hb.lt;obtain⟨G,h1,h2⟩:=at_rd hx;have HA:=h_ (rd_all ω w G D.db x.reads h1 hl);have HB:Hid (∀w' P,Sat ω w' (P*(rdH D.db x.reads*G))→Sat ω w' (P*(atH b s x*F))):=h_ (fun w' P h3=>(atH_to (D:=D) ((h2 w' P x.reads h3).swap)).swap)
 generalize x.reads=l at *
 generalize D.db=db at *
 clear h hx hb h1 h2;go_enter Tryz.func67,Tryz.ntmps67;go_wp2_with (go_at_call 105;refine(HA.o).mono ?_;rintro e w1 ⟨A,c,rfl,hs⟩;have HZ:=h_ hs;clear hs);go_ret;exact⟨_,_,rfl,HB.o _ _ HZ.o⟩
theorem at_reads (ω w:World)(F:HP)(b:Nat)(s:PSt)(x:PAt)(h:Sat ω w (atH b s x*F))(hv:x.v.ok):
  Calls Tryz.prog 109 #[.pointer (some ⟨b,0,none⟩)] w (RetR ω (atH b s x*F) 54 2 x.v.known.length (vS x.v.known)):=by
 obtain⟨D,hx⟩:=atH_of h;have hb:=atX_blk hx;have c1:w.cell? ⟨b,12,none⟩=some (.pointer (some ⟨D.vb,0,none⟩)):=hb.cell 12;have lt:=hb.lt;obtain⟨G,h1,h2⟩:=at_vw hx;have HA:=h_ (vw_known ω w G D.vb x.v h1 hv);have HB:Hid (∀w' P,Sat ω w' (P*(vwH D.vb x.v*G))→Sat ω w' (P*(atH b s x*F))):=h_ (fun w' P h3=>(atH_to (D:=D) ((h2 w' P x.v h3).swap)).swap)
 generalize x.v.known=l at *
 generalize vwH D.vb x.v*G=GG at *
 generalize D.vb=db at *
 clear h hx hb h1 h2;go_enter Tryz.func109,Tryz.ntmps109;go_wp2_with (go_at_call 146;refine(HA.o).mono ?_;rintro e w1 ⟨A,c,rfl,hs⟩;have HZ:=h_ hs;clear hs);go_ret;exact⟨_,_,rfl,HB.o _ _ HZ.o⟩
theorem at_co {ω w:World}{F:HP}{b:Nat}{s:PSt}{x:PAt}{D:AtD}(h:Sat ω w (atX b s x D*F)):(∃c cb CD,x.inner=.commit c∧D.cp=pV cb∧Blk w cb 258 (coC c CD))∨((∀c,x.inner≠.commit c)∧D.cp=.pointer none):=by
 unfold atX at h;have h1:Sat ω w (inH D x.inner*(bk b 198 (atC s x D)*(itH D.rb D.vb x.run x.v*(rdH D.db x.reads*F)))):=h.perm (by ac_rfl)
 cases hi:x.inner with
 |none =>
  rw[hi] at h1;exact .inr ⟨by simp,h1.of_fact.1⟩
 |fetch f =>
  rw[hi] at h1;obtain⟨fb,h1⟩:=h1.of_ex;exact .inr ⟨by simp,h1.assoc.of_fact.1.2.2⟩
 |extend f =>
  rw[hi] at h1;obtain⟨fb,h1⟩:=h1.of_ex;exact .inr ⟨by simp,h1.assoc.of_fact.1.2.2⟩
 |commit c =>
  rw[hi] at h1;obtain⟨cb,h1⟩:=h1.of_ex;obtain⟨h2,h3⟩:=h1.assoc.of_fact;obtain⟨CD,hb⟩:=coH_of h3;exact .inl ⟨c,cb,CD,rfl,h2.2,hb⟩
theorem writing_co {x:PAt}{c:PCo}(hi:x.inner=.commit c):x.writing=(x.state != 8&&(c.isWriting||c.rule.fin==2)):=by
 unfold PAt.writing;rw[hi]
theorem writing_no {x:PAt}(hn:∀c,x.inner≠.commit c):x.writing=false:=by
 unfold PAt.writing;cases hi:x.inner with
 |commit c=>exact absurd hi (hn c)
 |_=>simp
theorem writing_8 {x:PAt}(h:x.state=8):x.writing=false:=by
 unfold PAt.writing;rw[h];rfl
theorem at_writing (ω w:World)(F:HP)(b:Nat)(s:PSt)(x:PAt)(h:Sat ω w (atH b s x*F)):
  Calls Tryz.prog 108 #[.pointer (some ⟨b,0,none⟩)] w fun e w'=>e=.returned (.bool x.writing)∧w'=w:=by
 obtain⟨D,hx⟩:=atH_of h;have hb:=atX_blk hx;have c1:=hb.c 14;have c2:w.cell? ⟨b,18,none⟩=some D.cp:=hb.cell 18;have lt:=hb.lt;have hco:=at_co hx;by_cases h8:x.state=8
 ·rw[writing_8 h8];rw[h8] at c1;clear h hx hb hco h8;go_enter Tryz.func108,Tryz.ntmps108;go_wp2;go_ret;exact⟨rfl,rfl⟩
 ·have d:((x.state:Int) != 8)=true:=by simp;omega
  rcases hco with⟨c,cb,CD,hi,hcp,hcb⟩|⟨hn,hcp⟩
  ·rw[writing_co hi,show(x.state != 8)=true by simpa using h8,Bool.true_and]
   generalize x.state=k at *
   have HW:=h_ (co_writingOf w cb c CD hcb);have HE:=h_ (co_endOf w cb c CD hcb);rw[hcp] at c2;unfold pV at c2;have e2:(c.rule.fin==2)=((c.rule.fin:Int)==2):=by
    by_cases h9:c.rule.fin=2
    ·rw[h9];rfl
    ·have h10:¬(c.rule.fin:Int)=2:=by omega
     rw[beq_eq_false_iff_ne.2 h9,beq_eq_false_iff_ne.2 h10]
   rw[e2];generalize c.rule.fin=fin at *
   generalize c.isWriting=wr at *
   clear h hx hb hi hcp hcb e2 h8;cases wr
   ·rw[Bool.false_or];go_enter Tryz.func108,Tryz.ntmps108;go_wp2_with (first
     |(go_at_call 144;refine(HW.o).mono ?_;rintro e w1 ⟨rfl,rfl⟩)
     |(go_at_call 145;refine(HE.o).mono ?_;rintro e w1 ⟨rfl,rfl⟩))
    go_ret;exact⟨rfl,rfl⟩
   ·rw[Bool.true_or];go_enter Tryz.func108,Tryz.ntmps108;go_wp2_with (first
     |(go_at_call 144;refine(HW.o).mono ?_;rintro e w1 ⟨rfl,rfl⟩)
     |(go_at_call 145;refine(HE.o).mono ?_;rintro e w1 ⟨rfl,rfl⟩))
    go_ret;exact⟨rfl,rfl⟩
  ·rw[writing_no hn];generalize x.state=k at *
   rw[hcp] at c2;clear h hx hb hn hcp h8;go_enter Tryz.func108,Tryz.ntmps108;go_wp2;go_ret;exact⟨rfl,rfl⟩
theorem at_committed (ω w:World)(F:HP)(b:Nat)(s:PSt)(x:PAt)(h:Sat ω w (atH b s x*F)):
  Calls Tryz.prog 137 #[.pointer (some ⟨b,0,none⟩)] w fun e w'=>e=.returned (.bool x.committed)∧w'=w:=by
 have HW:=h_ (at_writing ω w F b s x h);have HE:=h_ (at_end ω w F b s x h);unfold PAt.committed;have e2:(x.finOf==2)=((x.finOf:Int)==2):=by
  by_cases h9:x.finOf=2
  ·rw[h9];rfl
  ·have h10:¬(x.finOf:Int)=2:=by omega
   rw[beq_eq_false_iff_ne.2 h9,beq_eq_false_iff_ne.2 h10]
 rw[e2];generalize x.finOf=fin at *
 generalize x.writing=wr at *
 obtain⟨d,hd⟩:∃d,((fin:Int)==2)=d:=⟨_,rfl⟩;rw[hd];clear h e2;cases d
 ·rw[Bool.false_or];go_enter Tryz.func137,Tryz.ntmps137;go_wp2_with (first
   |(go_at_call 108;refine(HW.o).mono ?_;rintro e w1 ⟨rfl,rfl⟩)
   |(go_at_call 63;refine(HE.o).mono ?_;rintro e w1 ⟨rfl,rfl⟩))
  go_ret;exact⟨rfl,rfl⟩
 ·rw[Bool.true_or];go_enter Tryz.func137,Tryz.ntmps137;go_wp2_with (first
   |(go_at_call 108;refine(HW.o).mono ?_;rintro e w1 ⟨rfl,rfl⟩)
   |(go_at_call 63;refine(HE.o).mono ?_;rintro e w1 ⟨rfl,rfl⟩))
  go_ret;exact⟨rfl,rfl⟩
end
section
variable (ω w : World) (F : HP)
theorem at_cells (b:Nat)(s:PSt)(x:PAt)(h:Sat ω w (atH b s x*F))(hv:x.v.ok):
  Calls Tryz.prog 110 #[.pointer (some ⟨b,0,none⟩)] w (RetR ω (atH b s x*F) 54 2 x.cells.length (vS x.cells)):=by
 have HQ:=h_ (at_committed ω w F b s x h);have H:=h_ h;unfold PAt.cells;cases hc:x.committed
 ·rw[if_neg (by simp)]
  rw[hc] at HQ;clear h hc;go_enter Tryz.func110,Tryz.ntmps110;go_wp2_with (go_at_call 137;refine(HQ.o).mono ?_;rintro e w1 ⟨rfl,rfl⟩);go_ret;exact⟨none,0,rfl,H.o.nil _ _⟩
 ·rw[if_pos rfl];rw[hc] at HQ;obtain⟨D,hx⟩:=atH_of h;have hb:=atX_blk hx;have c1:w.cell? ⟨b,12,none⟩=some (.pointer (some ⟨D.vb,0,none⟩)):=hb.cell 12;have lt:=hb.lt;obtain⟨G,h1,h2⟩:=at_vw hx;have HA:=h_ (vw_cells ω w G D.vb x.v h1 hv);have HB:Hid (∀w' P,Sat ω w' (P*(vwH D.vb x.v*G))→Sat ω w' (P*(atH b s x*F))):=h_ (fun w' P h3=>(atH_to (D:=D) ((h2 w' P x.v h3).swap)).swap)
  generalize x.v.logs.cells=l at *
  generalize vwH D.vb x.v*G=GG at *
  generalize D.vb=db at *
  clear h hx hb h1 h2 hc;go_enter Tryz.func110,Tryz.ntmps110;go_wp2_with (first
   |(go_at_call 137;refine(HQ.o).mono ?_;rintro e w1 ⟨rfl,rfl⟩)
   |(go_at_call 132;refine(HA.o).mono ?_;rintro e w1 ⟨A,c,rfl,hs⟩;have HZ:=h_ hs;clear hs))
  go_ret;exact⟨_,_,rfl,HB.o _ _ HZ.o⟩
theorem at_frees (b:Nat)(s:PSt)(x:PAt)(h:Sat ω w (atH b s x*F))(hv:x.v.ok):
  Calls Tryz.prog 102 #[.pointer (some ⟨b,0,none⟩)] w fun e w'=>e=.returned (.slice none 0 0)∧Only Nob w w':=by
 have HQ:=h_ (at_committed ω w F b s x h);cases hc:x.committed
 ·rw[hc] at HQ;clear h hc;go_enter Tryz.func102,Tryz.ntmps102;go_wp2_with (go_at_call 137;refine(HQ.o).mono ?_;rintro e w1 ⟨rfl,rfl⟩);go_ret;exact⟨rfl,Only.refl _ _⟩
 ·rw[hc] at HQ;obtain⟨D,hx⟩:=atH_of h;have hb:=atX_blk hx;have c1:w.cell? ⟨b,12,none⟩=some (.pointer (some ⟨D.vb,0,none⟩)):=hb.cell 12;have c2:w.cell? ⟨b,9,none⟩=some (.pointer (some ⟨D.rb,0,none⟩)):=hb.cell 9;have lt:=hb.lt;obtain⟨G,h1,h2⟩:=at_vw hx;have HA:=h_ (vw_frees ω w G D.vb x.v h1 hv);generalize D.vb=db at *
  generalize D.rb=rb at *
  clear h hx hb h1 h2 hc;go_enter Tryz.func102,Tryz.ntmps102;go_wp2_with (first
   |(go_at_call 137;refine(HQ.o).mono ?_;rintro e w1 ⟨rfl,rfl⟩)
   |(go_at_call 140;refine(HA.o).mono ?_;rintro e w1 ⟨rfl,hs⟩;have HZ:=h_ hs;clear hs))
  go_ret;exact⟨rfl,HZ.o⟩
theorem at_slate [Inhabited PowO](b:Nat)(s:PSt)(x:PAt)(h:Sat ω w (atH b s x*(powH*F)))(hr:x.run.regs.length=8)(hl:x.run.out.length≤1000)(hok:∀i∈x.run.out,i.ok):
  Calls Tryz.prog 99 #[.pointer (some ⟨b,0,none⟩)] w (Rets ω (powH*F) (.string ⟨x.slate.toArray⟩) (atH b s x)):=by
 have HQ:=h_ (at_committed ω w _ b s x h);have H:=h_ h;obtain⟨D,hx⟩:=atH_of h;have hb:=atX_blk hx;have c2:w.cell? ⟨b,9,none⟩=some (.pointer (some ⟨D.rb,0,none⟩)):=hb.cell 9;have lt:=hb.lt;unfold PAt.slate;cases hc:x.committed
 ·rw[if_neg (by simp)]
  rw[hc] at HQ;clear h hc hx hb;go_enter Tryz.func99,Tryz.ntmps99;go_wp2_with (go_at_call 137;refine(HQ.o).mono ?_;rintro e w1 ⟨rfl,rfl⟩);go_ret;exact⟨rfl,H.o⟩
 ·rw[if_pos rfl];rw[hc] at HQ;obtain⟨G,h1,h2⟩:=at_it hx;have HA:=h_ (ip_slate ω w G D.rb D.vb x.run x.v h1 hr hl);have HB:Hid (∀w' g,Sat ω w' (slH g x.run.out*(itH D.rb D.vb x.run x.v*G))→Sat ω w' (atH b s x*(powH*F))∧Calls Tryz.prog 139 #[.pointer (some ⟨g,0,none⟩)] w' fun e w''=>e=.returned (.string ⟨(textI x.run.out).toArray⟩)∧Only Nob w' w''):=h_ (fun w' g h3=>by
   have h4:=h2 w' _ x.run x.v h3;have h5:Sat ω w' (atH b s x*(slH g x.run.out*(powH*F))):=atH_to (D:=D) (h4.swap);have h6:Sat ω w' (slH g x.run.out*(powH*(atH b s x*F))):=h5.perm (by ac_rfl)
   exact⟨h5.swap.right,sl_text ω w' _ g x.run.out h6 hl hok⟩)
  generalize itH D.rb D.vb x.run x.v*G=GG at *
  generalize (textI x.run.out).toArray=tx at *
  generalize D.rb=rb at *
  clear h hx hb h1 h2 hc;go_enter Tryz.func99,Tryz.ntmps99;go_wp2_with (first
   |(go_at_call 137;refine(HQ.o).mono ?_;rintro e w1 ⟨rfl,rfl⟩)
   |(go_at_call 138;refine(HA.o).mono ?_;rintro e w1 ⟨g,rfl,hs⟩;have hz:=HB.o _ _ hs;have HZ1:=h_ hz.1;have HZ2:=h_ hz.2;clear hs hz)
   |(go_at_call 139;refine(HZ2.o).mono ?_;rintro e w2 ⟨rfl,hs⟩;have HY:=h_ hs;clear hs))
  go_ret;exact⟨rfl,HZ1.o.nob HY.o⟩
theorem atC_out (s:PSt)(x:PAt)(D:AtD)(f e:Nat)(by_:Int):((((atC s x D).setIfInBounds 22 (.int .i64 f)).setIfInBounds 24 (.int .i64 e)).setIfInBounds 23 (.int .i64 by_)).setIfInBounds 14 (.int .i64 7)=atC s (x.out f e by_) D:=rfl
theorem at_out (b:Nat)(s:PSt)(x:PAt)(h:Sat ω w (atH b s x*F))(f e:Nat)(by_:Int):
  Calls Tryz.prog 92 #[.pointer (some ⟨b,0,none⟩),.int .i64 f,.int .i64 e,.int .i64 by_] w (Rets ω F (.tuple #[]) (atH b s (x.out f e by_))):=by
 obtain⟨D,hx⟩:=atH_of h;have hb:=atX_blk hx;have lt:=hb.lt;have fz:=hb.frozen;have c1:=hb.c 22;have c2:=hb.c 24;have c3:=hb.c 23;have c4:=hb.c 14;have HS:Hid (Sat ω ((((w.setCell ⟨b,22,none⟩ (.int .i64 f)).setCell ⟨b,24,none⟩ (.int .i64 e)).setCell ⟨b,23,none⟩ (.int .i64 by_)).setCell ⟨b,14,none⟩ (.int .i64 7)) (atH b s (x.out f e by_)*F)):=h_ (by
  unfold atX at hx;refine atH_to (D:=D) ?_;exact((((hx.assoc.set 22 _).set 24 _).set 23 _).put 14 _ (atC_out s x D f e by_)).assoc')
 generalize (x.fin:Int)=k1 at *
 generalize (x.err:Int)=k2 at *
 generalize x.by_=k3 at *
 generalize (x.state:Int)=k4 at *
 clear h hx hb;go_enter Tryz.func92,Tryz.ntmps92;go_wp2;exact bodyPost_end (results_none rfl _ _ _) rfl ⟨rfl,HS.o⟩
end
structure AtCf (b:Nat) (s:PSt) (me stamp:Nat) (D:AtD) (w:World):Prop where
 c0:w.cell? ⟨b,0,none⟩=some (.int .i64 me)
 c2:w.cell? ⟨b,2,none⟩=some (.int .i64 s.stripes)
 c3:w.cell? ⟨b,3,none⟩=some (.int .i64 s.wide)
 c6:w.cell? ⟨b,6,none⟩=some (.int .i64 s.spins)
 c9:w.cell? ⟨b,9,none⟩=some (.pointer (some ⟨D.rb,0,none⟩))
 c12:w.cell? ⟨b,12,none⟩=some (.pointer (some ⟨D.vb,0,none⟩))
 c13:w.cell? ⟨b,13,none⟩=some (.pointer (some ⟨D.db,0,none⟩))
 c21:w.cell? ⟨b,21,none⟩=some (.int .u64 stamp)
 lt:b<w.heap.size
theorem atCf_of {ω w:World}{F P:HP}{b:Nat}{s:PSt}{x:PAt}{D:AtD}(h:Sat ω w (P*(atX b s x D*F))):AtCf b s x.me x.stamp D w:=by
 have hb:=atX_blk h.right;exact⟨hb.cell 0,hb.cell 2,hb.cell 3,hb.cell 6,hb.cell 9,hb.cell 12,hb.cell 13,hb.cell 21,hb.lt⟩
theorem AtCf.drewN {b:Nat}{s:PSt}{me stamp:Nat}{D:AtD}{w:World}(h:AtCf b s me stamp D w)(q:Nat):AtCf b s me stamp D (w.drewN q):=⟨h.c0,h.c2,h.c3,h.c6,h.c9,h.c12,h.c13,h.c21,h.lt⟩
theorem AtCf.setCell {b:Nat}{s:PSt}{me stamp:Nat}{D:AtD}{w:World}(h:AtCf b s me stamp D w){i:Nat}(hi:16≤i∧i≤18)(u:Value):AtCf b s me stamp D (w.setCell ⟨b,i,none⟩ u):=by
 have key:∀j v,j≠i→w.cell? ⟨b,j,none⟩=some v→(w.setCell ⟨b,i,none⟩ u).cell? ⟨b,j,none⟩=some v:=fun j v hj hv=>by
  rw[World.cell?_setCell_other _ _ _ _ (by intro e;injection e with _ e;exact hj e.symm)]
  exact hv
 exact⟨key _ _ (by omega) h.c0,key _ _ (by omega) h.c2,key _ _ (by omega) h.c3,key _ _ (by omega) h.c6,key _ _ (by omega) h.c9,key _ _ (by omega) h.c12,key _ _ (by omega) h.c13,key _ _ (by omega) h.c21,by simpa using h.lt⟩
theorem at_enter (ω w:World)(F:HP)(b:Nat)(s:PSt)(x:PAt)(D:AtD)(h:Sat ω w (bk b 198 (atC s x D)*F))(k:Nat)(T:TypeId)(g:Nat):
  Calls Tryz.prog 134 #[.pointer (some ⟨b,0,none⟩),.int .i64 k,.iface T (pV g)] w (Rets ω F (.tuple #[]) (bk b 198 (atC s { x with state:=k } { D with inn:=.iface T (pV g) }))):=by
 have hb:=h.blk;have lt:=hb.lt;have fz:=hb.frozen;have c4:=hb.c 14;have c5:w.cell? ⟨b,15,none⟩=some D.inn:=hb.cell 15;have HS:Hid (Sat ω ((w.setCell ⟨b,14,none⟩ (.int .i64 k)).setCell ⟨b,15,none⟩ (.iface T (pV g))) (bk b 198 (atC s { x with state:=k } { D with inn:=.iface T (pV g) })*F)):=h_ ((h.set 14 _).put 15 _ rfl)
 generalize (x.state:Int)=k4 at *
 generalize D.inn=k5 at *
 unfold pV at HS ⊢;clear h hb;go_enter Tryz.func134,Tryz.ntmps134;go_wp2;exact bodyPost_end (results_none rfl _ _ _) rfl ⟨rfl,HS.o⟩
theorem at_ask (ω w:World)(F:HP)(b:Nat)(s:PSt)(x:PAt)(h:Sat ω w (atH b s x*F))(p:Nat)(hp:p≤1000000)(hn:∀c,x.inner≠.commit c)(h1:1≤s.stripes)(h2:s.stripes≤16)(h3:1≤s.wide)(h4:s.wide≤16):
  Calls Tryz.prog 129 #[.pointer (some ⟨b,0,none⟩),.int .i64 p] w (Rets ω F (.tuple #[]) (atH b s (x.ask s p))):=by
 obtain⟨D,hx⟩:=atH_of h;have hcp:D.cp=.pointer none:=by
  rcases at_co hx with⟨c,_,_,hi,_⟩|⟨_,hc⟩
  ·exact absurd hi (hn c)
  ·exact hc
 have HS0:AtCf b s x.me x.stamp D w.drew:=(atCf_of (hx.emp_)).drewN 1;have HOF:=h_ (fun w1=>of_any w1 p s.stripes s.wide hp h1 h2 h3 h4)
 obtain⟨f,hf⟩:∃f,PFe.new x.me p (stripeOf p s.stripes s.wide) s.spins x.stamp=f:=⟨_,rfl⟩;have HFE:Hid (∀w1,Sat ω w1 (atX b s x D*F)→Calls Tryz.prog 158 #[.int .i64 x.me,.int .i64 p,.int .i64 ((stripeOf p s.stripes s.wide:Nat):Int),.int .i64 s.spins,.int .u64 x.stamp] w1 (RetP ω (atX b s x D*F) fun g=>fetchH g f)):=h_ (fun w1 hw=>hf▸fe_new ω w1 _ hw x.me p _ s.spins x.stamp)
 obtain⟨REST,hREST⟩:∃REST,REST=itH D.rb D.vb x.run x.v*(rdH D.db x.reads*F):=⟨_,rfl⟩;have HK:Hid (∀w1 g,Sat ω w1 (fetchH g f*(atX b s x D*F))→Sat ω (w1.setCell ⟨b,16,none⟩ (pV g)) (bk b 198 (atC s x { D with fp:=pV g })*(fetchH g f*REST))∧w1.frozen? ⟨b,16,none⟩=false∧b<w1.heap.size∧∃u,w1.cell? ⟨b,16,none⟩=some u):=h_ (fun w1 g hw=>by
  unfold atX at hw;have h5:Sat ω w1 (bk b 198 (atC s x D)*(inH D x.inner*(fetchH g f*REST))):=hw.perm (by rw[hREST];ac_rfl)
  have hb:=h5.blk;exact⟨((h5.put 16 (pV g) (cs':=atC s x { D with fp:=pV g }) rfl).swap).right,hb.frozen 16,hb.lt,_,hb.cell 16⟩)
 have HEN:Hid (∀w1 g,Sat ω w1 (bk b 198 (atC s x { D with fp:=pV g })*(fetchH g f*REST))→Calls Tryz.prog 134 #[.pointer (some ⟨b,0,none⟩),.int .i64 3,.iface 194 (pV g)] w1 (Rets ω F (.tuple #[]) (atH b s (x.ask s p)))):=h_ (fun w1 g hw=>by
  refine(at_enter ω w1 _ b s x { D with fp:=pV g } hw 3 _ g).mono ?_
  rintro e w2 ⟨rfl,h6⟩;refine⟨rfl,atH_to (D:={ D with fp:=pV g,inn:=.iface 194 (pV g) }) ?_⟩
  have h7:Sat ω w2 (fetchH g f*(bk b 198 (atC s { x with state:=3 } { D with fp:=pV g,inn:=.iface 194 (pV g) })*REST)):=h6.swap
  have h8:Sat ω w2 (inH { D with fp:=pV g,inn:=.iface 194 (pV g) } (.fetch f)*(bk b 198 (atC s { x with state:=3 } { D with fp:=pV g,inn:=.iface 194 (pV g) })*REST)):=Sat.to_ex (f:=fun g9=>fact ((Value.iface 194 (pV g))=.iface 194 (pV g9)∧pV g=pV g9∧D.cp=.pointer none)*fetchH g9 f) g ((h7.to_fact ⟨rfl,rfl,hcp⟩).assoc')
  rw[hREST] at h8;unfold atX PAt.ask;rw[hf];exact h8.perm (by simp only;ac_rfl))
 have HCF:Hid (∀w1 g,Sat ω w1 (fetchH g f*(atX b s x D*F))→AtCf b s x.me x.stamp D w1):=h_ (fun w1 g hw=>atCf_of hw)
 have HW0:Hid (∀q,Sat ω (w.drewN q) (atX b s x D*F)):=h_ (fun q=>hx.drewN q)
 generalize stripeOf p s.stripes s.wide=st at *
 generalize x.me=me at *
 generalize x.stamp=stamp at *
 clear h hx hf hREST hn hcp h1 h2 h3 h4 hp;go_enter Tryz.func129,Tryz.ntmps129;go_wp2;refine wp_region_noPanic ?_;refine gH (AtCf b s me stamp D) HS0 fun hh0=>?_
 refine tH 0 ?_ rfl ?_ (tH 1 ?_ rfl ?_ (tH 2 ?_ rfl ?_ (tH 3 ?_ rfl ?_ (tH 4 ?_ rfl ?_ (tH 5 ?_ rfl ?_ (tH 6 ?_ rfl ?_ (tH 7 ?_ rfl ?_ (tH 8 ?_ rfl ?_ (tH 9 ?_ rfl ?_ (tH 10 ?_ rfl ?_ (tH 11 ?_ rfl ?_ (tH 12 ?_ rfl ?_ (tH 13 ?_ rfl ?_ (tH 14 ?_ rfl ?_ (tH 15 ?_ rfl ?_ (tH 16 ?_ rfl ?_ (tH 17 ?_ rfl ?_ (tH 18 ?_ rfl ?_ (tH 20 ?_ rfl ?_ (tH 21 ?_ rfl ?_ (tH 22 ?_ rfl ?_ (tH 23 ?_ rfl ?_ (tH 24 ?_ rfl ?_ (tH 25 ?_ rfl ?_ (tH 26 ?_ rfl ?_ (tH 27 ?_ rfl ?_ (tH 28 ?_ rfl ?_ ?_)))))))))))))))))))))))))));all_goals (try (
  intro w hSw;have d0:=hSw.c0;have d2:=hSw.c2;have d3:=hSw.c3;have d6:=hSw.c6;have d21:=hSw.c21;have d13:=hSw.c13;have dl:=hSw.lt;try simp only[Act.put,sA,sB,sC]
  go_simp<;>(try with_reducible rfl)))
 try simp only[Act.put,sA,sB,sC]
 refine oH 19 rfl fun K hK=>?_
 go_simp;go_at_call 159;refine(HOF.o _).mono ?_;rintro e wA ⟨rfl,qa,rfl⟩;first|(refine hK.q ?_ fun hh1=>?_)|(go_wp2_with fail;refine hK.q ?_ fun hh1=>?_)
 ·exact HS0.drewN qa
 clear hK K hh0;try simp only[Act.put,sA,sB,sC]
 refine oH 29 rfl fun K hK=>?_
 go_simp;go_at_call 158;refine(HFE.o _ (HW0.o _)).mono ?_;rintro e wB ⟨g,rfl,hs⟩;have HT:=h_ hs;clear hs;first|(refine hK.q ?_ fun hh2=>?_)|(go_wp2_with fail;refine hK.q ?_ fun hh2=>?_)
 ·exact HCF.o _ _ HT.o
 clear hK K hh1;try simp only[Act.put,sA,sB,sC]
 refine tH 30 ?_ rfl ?_ (tH 31 ?_ rfl ?_ ?_);all_goals (try (
  intro w hSw;have d0:=hSw.c0;have d2:=hSw.c2;have d3:=hSw.c3;have d6:=hSw.c6;have d21:=hSw.c21;have d13:=hSw.c13;have dl:=hSw.lt;try simp only[Act.put,sA,sB,sC]
  go_simp<;>(try with_reducible rfl)))
 try simp only[Act.put,sA,sB,sC]
 refine oH 32 rfl fun K hK=>?_
 obtain⟨k1,k2,k3,u9,k4⟩:=HK.o _ _ HT.o;unfold pV at k1;go_simp;first|(refine hK.q ?_ fun hh3=>?_)|(go_wp2_with fail;refine hK.q ?_ fun hh3=>?_)
 ·exact(HCF.o _ _ HT.o).setCell (i:=16) (by omega) _
 clear hK K hh2;try simp only[Act.put,sA,sB,sC]
 refine dH (NoPanic.normal ?_);have hcc:World.cell? _ ⟨b,16,none⟩=some (.pointer (some ⟨g,0,none⟩)):=k1.blk.cell 16;have hcl:=k1.blk.lt;unfold pV at HEN;go_wp2_with (go_at_call 134;refine(HEN.o _ _ k1).mono ?_;rintro e w5 ⟨rfl,hs⟩;have HZ:=h_ hs;clear hs);exact bodyPost_end (results_none rfl _ _ _) rfl ⟨rfl,HZ.o⟩
theorem at_later (ω w:World)(F:HP)(b:Nat)(s:PSt)(x:PAt)(h:Sat ω w (atH b s x*F))(k:Nat)(hn:∀c,x.inner≠.commit c)(hr:x.reads.length≤1000):
  Calls Tryz.prog 131 #[.pointer (some ⟨b,0,none⟩),.int .i64 k] w (Rets ω F (.tuple #[]) (atH b s (x.later s k))):=by
 obtain⟨D,hx⟩:=atH_of h;have hcp:D.cp=.pointer none:=by
  rcases at_co hx with⟨c,_,_,hi,_⟩|⟨_,hc⟩
  ·exact absurd hi (hn c)
  ·exact hc
 have HS0:AtCf b s x.me x.stamp D w.drew:=(atCf_of (hx.emp_)).drewN 1;have HALL:Hid (∀q,Calls Tryz.prog 105 #[.pointer (some ⟨D.db,0,none⟩)] (w.drewN q) fun e w'=>∃A c,e=.returned (.slice A x.reads.length c)∧Sat ω w' (row 148 2 (.slice A x.reads.length c) x.reads.length (vS x.reads)*(atX b s x D*F))):=h_ (fun q=>by
  obtain⟨G,h1,h2⟩:=at_rd (hx.drewN q);refine(rd_all ω _ G D.db x.reads h1 hr).mono ?_;rintro e w1 ⟨A,c,rfl,h3⟩;exact⟨A,c,rfl,h2 w1 _ x.reads h3⟩)
 obtain⟨f,hf⟩:∃f,PEx.new x.me s.spins x.reads=f:=⟨_,rfl⟩;have HFE:Hid (∀w1 A c,Sat ω w1 (row 148 2 (.slice A x.reads.length c) x.reads.length (vS x.reads)*(atX b s x D*F))→Calls Tryz.prog 160 #[.int .i64 x.me,.int .i64 s.spins,.slice A x.reads.length c] w1 (RetP ω (atX b s x D*F) fun g=>extH g f)):=h_ (fun w1 A c hw=>by
  refine(ex_new ω w1 _ x.me s.spins x.reads A c hr hw).mono ?_;rintro e w2 ⟨g,rfl,h3⟩;rw[hf] at h3;exact⟨g,rfl,h3.swap.right⟩)
 obtain⟨REST,hREST⟩:∃REST,REST=itH D.rb D.vb x.run x.v*(rdH D.db x.reads*F):=⟨_,rfl⟩;have HK:Hid (∀w1 g,Sat ω w1 (extH g f*(atX b s x D*F))→Sat ω (w1.setCell ⟨b,17,none⟩ (pV g)) (bk b 198 (atC s x { D with ep:=pV g })*(extH g f*REST))∧w1.frozen? ⟨b,17,none⟩=false∧b<w1.heap.size∧∃u,w1.cell? ⟨b,17,none⟩=some u):=h_ (fun w1 g hw=>by
  unfold atX at hw;have h5:Sat ω w1 (bk b 198 (atC s x D)*(inH D x.inner*(extH g f*REST))):=hw.perm (by rw[hREST];ac_rfl)
  have hb:=h5.blk;exact⟨((h5.put 17 (pV g) (cs':=atC s x { D with ep:=pV g }) rfl).swap).right,hb.frozen 17,hb.lt,_,hb.cell 17⟩)
 have HEN:Hid (∀w1 g,Sat ω w1 (bk b 198 (atC s x { D with ep:=pV g })*(extH g f*REST))→Calls Tryz.prog 134 #[.pointer (some ⟨b,0,none⟩),.int .i64 k,.iface 195 (pV g)] w1 (Rets ω F (.tuple #[]) (atH b s (x.later s k)))):=h_ (fun w1 g hw=>by
  refine(at_enter ω w1 _ b s x { D with ep:=pV g } hw k _ g).mono ?_
  rintro e w2 ⟨rfl,h6⟩;refine⟨rfl,atH_to (D:={ D with ep:=pV g,inn:=.iface 195 (pV g) }) ?_⟩
  have h7:Sat ω w2 (extH g f*(bk b 198 (atC s { x with state:=k } { D with ep:=pV g,inn:=.iface 195 (pV g) })*REST)):=h6.swap
  have h8:Sat ω w2 (inH { D with ep:=pV g,inn:=.iface 195 (pV g) } (.extend f)*(bk b 198 (atC s { x with state:=k } { D with ep:=pV g,inn:=.iface 195 (pV g) })*REST)):=Sat.to_ex (f:=fun g9=>fact ((Value.iface 195 (pV g))=.iface 195 (pV g9)∧pV g=pV g9∧D.cp=.pointer none)*extH g9 f) g ((h7.to_fact ⟨rfl,rfl,hcp⟩).assoc')
  rw[hREST] at h8;unfold atX PAt.later;rw[hf];exact h8.perm (by simp only;ac_rfl))
 have HCF:Hid (∀w1 g,Sat ω w1 (extH g f*(atX b s x D*F))→AtCf b s x.me x.stamp D w1):=h_ (fun w1 g hw=>atCf_of hw)
 have HCR:Hid (∀w1 A c,Sat ω w1 (row 148 2 (.slice A x.reads.length c) x.reads.length (vS x.reads)*(atX b s x D*F))→AtCf b s x.me x.stamp D w1):=h_ (fun w1 A c hw=>atCf_of hw)
 generalize x.me=me at *
 generalize x.stamp=stamp at *
 generalize x.reads.length=rl at *
 clear h hx hf hREST hn hcp hr;go_enter Tryz.func131,Tryz.ntmps131;go_wp2;refine wp_region_noPanic ?_;refine gH (AtCf b s me stamp D) HS0 fun hh0=>?_
 refine tH 0 ?_ rfl ?_ (tH 1 ?_ rfl ?_ (tH 2 ?_ rfl ?_ (tH 3 ?_ rfl ?_ (tH 4 ?_ rfl ?_ (tH 5 ?_ rfl ?_ (tH 6 ?_ rfl ?_ (tH 7 ?_ rfl ?_ (tH 8 ?_ rfl ?_ (tH 9 ?_ rfl ?_ (tH 10 ?_ rfl ?_ (tH 11 ?_ rfl ?_ (tH 12 ?_ rfl ?_ (tH 13 ?_ rfl ?_ ?_)))))))))))));all_goals (try (
  intro w hSw;have d0:=hSw.c0;have d2:=hSw.c2;have d3:=hSw.c3;have d6:=hSw.c6;have d21:=hSw.c21;have d13:=hSw.c13;have dl:=hSw.lt;try simp only[Act.put,sA,sB,sC]
  go_simp<;>(try with_reducible rfl)))
 try simp only[Act.put,sA,sB,sC]
 refine oH 14 rfl fun K hK=>?_
 go_simp;go_at_call 105;refine(HALL.o _).mono ?_;rintro e wA ⟨A,c,rfl,hs⟩;have HR:=h_ hs;clear hs;first|(refine hK.q ?_ fun hh1=>?_)|(go_wp2_with fail;refine hK.q ?_ fun hh1=>?_)
 ·exact HCR.o _ _ _ HR.o
 clear hK K hh0;try simp only[Act.put,sA,sB,sC]
 refine oH 15 rfl fun K hK=>?_
 go_simp;go_at_call 160;refine(HFE.o _ _ _ HR.o).mono ?_;rintro e wB ⟨g,rfl,hs⟩;have HT:=h_ hs;clear hs;first|(refine hK.q ?_ fun hh2=>?_)|(go_wp2_with fail;refine hK.q ?_ fun hh2=>?_)
 ·exact HCF.o _ _ HT.o
 clear hK K hh1;try simp only[Act.put,sA,sB,sC]
 refine tH 16 ?_ rfl ?_ (tH 17 ?_ rfl ?_ ?_);all_goals (try (
  intro w hSw;have d0:=hSw.c0;have d2:=hSw.c2;have d3:=hSw.c3;have d6:=hSw.c6;have d21:=hSw.c21;have d13:=hSw.c13;have dl:=hSw.lt;try simp only[Act.put,sA,sB,sC]
  go_simp<;>(try with_reducible rfl)))
 try simp only[Act.put,sA,sB,sC]
 refine oH 18 rfl fun K hK=>?_
 obtain⟨k1,k2,k3,u9,k4⟩:=HK.o _ _ HT.o;unfold pV at k1;go_simp;first|(refine hK.q ?_ fun hh3=>?_)|(go_wp2_with fail;refine hK.q ?_ fun hh3=>?_)
 ·exact(HCF.o _ _ HT.o).setCell (i:=17) (by omega) _
 clear hK K hh2;try simp only[Act.put,sA,sB,sC]
 refine dH (NoPanic.normal ?_);have hcc:World.cell? _ ⟨b,17,none⟩=some (.pointer (some ⟨g,0,none⟩)):=k1.blk.cell 17;have hcl:=k1.blk.lt;unfold pV at HEN;go_wp2_with (go_at_call 134;refine(HEN.o _ _ k1).mono ?_;rintro e w5 ⟨rfl,hs⟩;have HZ:=h_ hs;clear hs);exact bodyPost_end (results_none rfl _ _ _) rfl ⟨rfl,HZ.o⟩
end Go.Proofs.YtfodmgaliclhfaaGreatDoor
