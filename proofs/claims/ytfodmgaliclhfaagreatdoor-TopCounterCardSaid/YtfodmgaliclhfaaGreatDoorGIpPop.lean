/- Lemmas; no conditions. -/
import Derived.Test.YtfodmgaliclhfaaGreatDoorGAt2
import Derived.Deep.RegionHeld3
import Derived.Deep.RegionHeld2
namespace Go.Proofs.YtfodmgaliclhfaaGreatDoor
set_option linter.unusedVariables false
set_option linter.unusedSimpArgs false
set_option maxRecDepth 100000
set_option maxHeartbeats 8000000
open Go.RowKit
section
variable (ω w : World) (F : HP)
theorem at_cells (b:Nat)(s:PSt)(x:PAt)(h:Sat ω w (atH b s x*F))(hv:x.v.ok):
  Calls Tryz.prog 110 #[.pointer (some ⟨b,0,none⟩)] w (RetR ω (atH b s x*F) 54 2 x.cells.length (vS x.cells)):=by
 have HQ:=h_ (at_committed ω w F b s x h);have H:=h_ h;unfold PAt.cells;cases hc:x.committed
 ·rw[if_neg (by simp)]
  rw[hc] at HQ;go_enter Tryz.func110,Tryz.ntmps110;go_wp2_with (go_at_call 137;refine(HQ.o).mono ?_;rintro e w1 ⟨rfl,rfl⟩);go_ret;exact⟨none,0,rfl,H.o.nil _ _⟩
 ·rw[if_pos rfl];rw[hc] at HQ;obtain⟨D,hx⟩:=atH_of h;have hb:=atX_blk hx;have c1:w.cell? ⟨b,12,none⟩=some (.pointer (some ⟨D.vb,0,none⟩)):=hb.cell 12;have lt:=hb.lt;obtain⟨G,h1,h2⟩:=at_vw hx;have HA:=h_ (vw_cells ω w G D.vb x.v h1 hv);have HB:Hid (∀w' P,Sat ω w' (P*(vwH D.vb x.v*G))→Sat ω w' (P*(atH b s x*F))):=h_ (fun w' P h3=>(atH_to (D:=D) ((h2 w' P x.v h3).swap)).swap)
  generalize x.v.logs.cells=l at *
  generalize vwH D.vb x.v*G=GG at *
  generalize D.vb=db at *
  go_enter Tryz.func110,Tryz.ntmps110;go_wp2_with (first
   |(go_at_call 137;refine(HQ.o).mono ?_;rintro e w1 ⟨rfl,rfl⟩)
   |(go_at_call 132;refine(HA.o).mono ?_;rintro e w1 ⟨A,c,rfl,hs⟩;have HZ:=h_ hs))
  go_ret;exact⟨_,_,rfl,HB.o _ _ HZ.o⟩
theorem at_frees (b:Nat)(s:PSt)(x:PAt)(h:Sat ω w (atH b s x*F))(hv:x.v.ok):
  Calls Tryz.prog 102 #[.pointer (some ⟨b,0,none⟩)] w fun e w'=>e=.returned (.slice none 0 0)∧Only Nob w w':=by
 have HQ:=h_ (at_committed ω w F b s x h);cases hc:x.committed
 ·rw[hc] at HQ;go_enter Tryz.func102,Tryz.ntmps102;go_wp2_with (go_at_call 137;refine(HQ.o).mono ?_;rintro e w1 ⟨rfl,rfl⟩);go_ret;exact⟨rfl,Only.refl _ _⟩
 ·rw[hc] at HQ;obtain⟨D,hx⟩:=atH_of h;have hb:=atX_blk hx;have c1:w.cell? ⟨b,12,none⟩=some (.pointer (some ⟨D.vb,0,none⟩)):=hb.cell 12;have c2:w.cell? ⟨b,9,none⟩=some (.pointer (some ⟨D.rb,0,none⟩)):=hb.cell 9;have lt:=hb.lt;obtain⟨G,h1,h2⟩:=at_vw hx;have HA:=h_ (vw_frees ω w G D.vb x.v h1 hv);generalize D.vb=db at *
  generalize D.rb=rb at *
  go_enter Tryz.func102,Tryz.ntmps102;go_wp2_with (first
   |(go_at_call 137;refine(HQ.o).mono ?_;rintro e w1 ⟨rfl,rfl⟩)
   |(go_at_call 140;refine(HA.o).mono ?_;rintro e w1 ⟨rfl,hs⟩;have HZ:=h_ hs))
  go_ret;exact⟨rfl,HZ.o⟩
theorem at_slate [Inhabited PowO](b:Nat)(s:PSt)(x:PAt)(h:Sat ω w (atH b s x*(powH*F)))(hr:x.run.regs.length=8)(hl:x.run.out.length≤1000)(hok:∀i∈x.run.out,i.ok):
  Calls Tryz.prog 99 #[.pointer (some ⟨b,0,none⟩)] w (Rets ω (powH*F) (.string ⟨x.slate.toArray⟩) (atH b s x)):=by
 have HQ:=h_ (at_committed ω w _ b s x h);have H:=h_ h;obtain⟨D,hx⟩:=atH_of h;have hb:=atX_blk hx;have c2:w.cell? ⟨b,9,none⟩=some (.pointer (some ⟨D.rb,0,none⟩)):=hb.cell 9;have lt:=hb.lt;unfold PAt.slate;cases hc:x.committed
 ·rw[if_neg (by simp)]
  rw[hc] at HQ;go_enter Tryz.func99,Tryz.ntmps99;go_wp2_with (go_at_call 137;refine(HQ.o).mono ?_;rintro e w1 ⟨rfl,rfl⟩);go_ret;exact⟨rfl,H.o⟩
 ·rw[if_pos rfl];rw[hc] at HQ;obtain⟨G,h1,h2⟩:=at_it hx;have HA:=h_ (ip_slate ω w G D.rb D.vb x.run x.v h1 hr hl);have HB:Hid (∀w' g,Sat ω w' (slH g x.run.out*(itH D.rb D.vb x.run x.v*G))→Sat ω w' (atH b s x*(powH*F))∧Calls Tryz.prog 139 #[.pointer (some ⟨g,0,none⟩)] w' fun e w''=>e=.returned (.string ⟨(textI x.run.out).toArray⟩)∧Only Nob w' w''):=h_ (fun w' g h3=>by
   have h4:=h2 w' _ x.run x.v h3;have h5:Sat ω w' (atH b s x*(slH g x.run.out*(powH*F))):=atH_to (D:=D) (h4.swap);have h6:Sat ω w' (slH g x.run.out*(powH*(atH b s x*F))):=h5.perm (by ac_rfl)
   exact⟨h5.swap.right,sl_text ω w' _ g x.run.out h6 hl hok⟩)
  generalize itH D.rb D.vb x.run x.v*G=GG at *
  generalize (textI x.run.out).toArray=tx at *
  generalize D.rb=rb at *
  go_enter Tryz.func99,Tryz.ntmps99;go_wp2_with (first
   |(go_at_call 137;refine(HQ.o).mono ?_;rintro e w1 ⟨rfl,rfl⟩)
   |(go_at_call 138;refine(HA.o).mono ?_;rintro e w1 ⟨g,rfl,hs⟩;have hz:=HB.o _ _ hs;have HZ1:=h_ hz.1;have HZ2:=h_ hz.2)
   |(go_at_call 139;refine(HZ2.o).mono ?_;rintro e w2 ⟨rfl,hs⟩;have HY:=h_ hs))
  go_ret;exact⟨rfl,HZ1.o.nob HY.o⟩
theorem atC_out (s:PSt)(x:PAt)(D:AtD)(f e:Nat)(by_:Int):((((atC s x D).setIfInBounds 22 (.int .i64 f)).setIfInBounds 24 (.int .i64 e)).setIfInBounds 23 (.int .i64 by_)).setIfInBounds 14 (.int .i64 7)=atC s (x.out f e by_) D:=rfl
theorem at_out (b:Nat)(s:PSt)(x:PAt)(h:Sat ω w (atH b s x*F))(f e:Nat)(by_:Int):
  Calls Tryz.prog 92 #[.pointer (some ⟨b,0,none⟩),.int .i64 f,.int .i64 e,.int .i64 by_] w (Rets ω F (.tuple #[]) (atH b s (x.out f e by_))):=by
 obtain⟨D,hx⟩:=atH_of h;have hb:=atX_blk hx;have lt:=hb.lt;have fz:=hb.frozen;have c1:=hb.c 22;have c2:=hb.c 24;have c3:=hb.c 23;have c4:=hb.c 14;have HS:Hid (Sat ω ((((w.setCell ⟨b,22,none⟩ (.int .i64 f)).setCell ⟨b,24,none⟩ (.int .i64 e)).setCell ⟨b,23,none⟩ (.int .i64 by_)).setCell ⟨b,14,none⟩ (.int .i64 7)) (atH b s (x.out f e by_)*F)):=h_ (by
  unfold atX at hx;refine atH_to (D:=D) ?_;exact((((hx.assoc.set 22 _).set 24 _).set 23 _).put 14 _ (atC_out s x D f e by_)).assoc')
 generalize (x.fin:Int)=k1 at *
 generalize (x.err:Int)=k2 at *
 generalize x.by_=k3 at *
 generalize (x.state:Int)=k4 at *
 go_enter Tryz.func92,Tryz.ntmps92;go_wp2;exact bodyPost_end (results_none rfl _ _ _) rfl ⟨rfl,HS.o⟩
end
structure AtCf (b:Nat) (s:PSt) (me stamp:Nat) (D:AtD) (w:World):Prop where
 c0:w.cell? ⟨b,0,none⟩=some (.int .i64 me)
 c2:w.cell? ⟨b,2,none⟩=some (.int .i64 s.stripes)
 c3:w.cell? ⟨b,3,none⟩=some (.int .i64 s.wide)
 c6:w.cell? ⟨b,6,none⟩=some (.int .i64 s.spins)
 c9:w.cell? ⟨b,9,none⟩=some (.pointer (some ⟨D.rb,0,none⟩))
 c12:w.cell? ⟨b,12,none⟩=some (.pointer (some ⟨D.vb,0,none⟩))
 c13:w.cell? ⟨b,13,none⟩=some (.pointer (some ⟨D.db,0,none⟩))
 c21:w.cell? ⟨b,21,none⟩=some (.int .u64 stamp)
 lt:b<w.heap.size
theorem atCf_of {ω w:World}{F P:HP}{b:Nat}{s:PSt}{x:PAt}{D:AtD}(h:Sat ω w (P*(atX b s x D*F))):AtCf b s x.me x.stamp D w:=by
 have hb:=atX_blk h.right;exact⟨hb.cell 0,hb.cell 2,hb.cell 3,hb.cell 6,hb.cell 9,hb.cell 12,hb.cell 13,hb.cell 21,hb.lt⟩
theorem AtCf.drewN {b:Nat}{s:PSt}{me stamp:Nat}{D:AtD}{w:World}(h:AtCf b s me stamp D w)(q:Nat):AtCf b s me stamp D (w.drewN q):=⟨h.c0,h.c2,h.c3,h.c6,h.c9,h.c12,h.c13,h.c21,h.lt⟩
theorem AtCf.setCell {b:Nat}{s:PSt}{me stamp:Nat}{D:AtD}{w:World}(h:AtCf b s me stamp D w){i:Nat}(hi:16≤i∧i≤18)(u:Value):AtCf b s me stamp D (w.setCell ⟨b,i,none⟩ u):=by
 have key:∀j v,j≠i→w.cell? ⟨b,j,none⟩=some v→(w.setCell ⟨b,i,none⟩ u).cell? ⟨b,j,none⟩=some v:=fun j v hj hv=>by
  rw[World.cell?_setCell_other _ _ _ _ (by intro e;injection e with _ e;exact hj e.symm)]
  exact hv
 exact⟨key _ _ (by omega) h.c0,key _ _ (by omega) h.c2,key _ _ (by omega) h.c3,key _ _ (by omega) h.c6,key _ _ (by omega) h.c9,key _ _ (by omega) h.c12,key _ _ (by omega) h.c13,key _ _ (by omega) h.c21,by simpa using h.lt⟩
theorem at_enter (ω w:World)(F:HP)(b:Nat)(s:PSt)(x:PAt)(D:AtD)(h:Sat ω w (bk b 198 (atC s x D)*F))(k:Nat)(T:TypeId)(g:Nat):
  Calls Tryz.prog 134 #[.pointer (some ⟨b,0,none⟩),.int .i64 k,.iface T (pV g)] w (Rets ω F (.tuple #[]) (bk b 198 (atC s { x with state:=k } { D with inn:=.iface T (pV g) }))):=by
 have hb:=h.blk;have lt:=hb.lt;have fz:=hb.frozen;have c4:=hb.c 14;have c5:w.cell? ⟨b,15,none⟩=some D.inn:=hb.cell 15;have HS:Hid (Sat ω ((w.setCell ⟨b,14,none⟩ (.int .i64 k)).setCell ⟨b,15,none⟩ (.iface T (pV g))) (bk b 198 (atC s { x with state:=k } { D with inn:=.iface T (pV g) })*F)):=h_ ((h.set 14 _).put 15 _ rfl)
 generalize (x.state:Int)=k4 at *
 generalize D.inn=k5 at *
 unfold pV at HS ⊢;go_enter Tryz.func134,Tryz.ntmps134;go_wp2;exact bodyPost_end (results_none rfl _ _ _) rfl ⟨rfl,HS.o⟩
theorem at_ask (ω w:World)(F:HP)(b:Nat)(s:PSt)(x:PAt)(h:Sat ω w (atH b s x*F))(p:Nat)(hp:p≤1000000)(hn:∀c,x.inner≠.commit c)(h1:1≤s.stripes)(h2:s.stripes≤16)(h3:1≤s.wide)(h4:s.wide≤16):
  Calls Tryz.prog 129 #[.pointer (some ⟨b,0,none⟩),.int .i64 p] w (Rets ω F (.tuple #[]) (atH b s (x.ask s p))):=by
 obtain⟨D,hx⟩:=atH_of h;have hcp:D.cp=.pointer none:=by
  rcases at_co hx with⟨c,_,_,hi,_⟩|⟨_,hc⟩
  ·exact absurd hi (hn c)
  ·exact hc
 have HS0:AtCf b s x.me x.stamp D w.drew:=(atCf_of (hx.emp_)).drewN 1;have HOF:=h_ (fun w1=>of_any w1 p s.stripes s.wide hp h1 h2 h3 h4)
 obtain⟨f,hf⟩:∃f,PFe.new x.me p (stripeOf p s.stripes s.wide) s.spins x.stamp=f:=⟨_,rfl⟩;have HFE:Hid (∀w1,Sat ω w1 (atX b s x D*F)→Calls Tryz.prog 158 #[.int .i64 x.me,.int .i64 p,.int .i64 ((stripeOf p s.stripes s.wide:Nat):Int),.int .i64 s.spins,.int .u64 x.stamp] w1 (RetP ω (atX b s x D*F) fun g=>fetchH g f)):=h_ (fun w1 hw=>hf▸fe_new ω w1 _ hw x.me p _ s.spins x.stamp)
 obtain⟨REST,hREST⟩:∃REST,REST=itH D.rb D.vb x.run x.v*(rdH D.db x.reads*F):=⟨_,rfl⟩;have HK:Hid (∀w1 g,Sat ω w1 (fetchH g f*(atX b s x D*F))→Sat ω (w1.setCell ⟨b,16,none⟩ (pV g)) (bk b 198 (atC s x { D with fp:=pV g })*(fetchH g f*REST))∧w1.frozen? ⟨b,16,none⟩=false∧b<w1.heap.size∧∃u,w1.cell? ⟨b,16,none⟩=some u):=h_ (fun w1 g hw=>by
  unfold atX at hw;have h5:Sat ω w1 (bk b 198 (atC s x D)*(inH D x.inner*(fetchH g f*REST))):=hw.perm (by rw[hREST];ac_rfl)
  have hb:=h5.blk;exact⟨((h5.put 16 (pV g) (cs':=atC s x { D with fp:=pV g }) rfl).swap).right,hb.frozen 16,hb.lt,_,hb.cell 16⟩)
 have HEN:Hid (∀w1 g,Sat ω w1 (bk b 198 (atC s x { D with fp:=pV g })*(fetchH g f*REST))→Calls Tryz.prog 134 #[.pointer (some ⟨b,0,none⟩),.int .i64 3,.iface 194 (pV g)] w1 (Rets ω F (.tuple #[]) (atH b s (x.ask s p)))):=h_ (fun w1 g hw=>by
  refine(at_enter ω w1 _ b s x { D with fp:=pV g } hw 3 _ g).mono ?_
  rintro e w2 ⟨rfl,h6⟩;refine⟨rfl,atH_to (D:={ D with fp:=pV g,inn:=.iface 194 (pV g) }) ?_⟩
  have h7:Sat ω w2 (fetchH g f*(bk b 198 (atC s { x with state:=3 } { D with fp:=pV g,inn:=.iface 194 (pV g) })*REST)):=h6.swap
  have h8:Sat ω w2 (inH { D with fp:=pV g,inn:=.iface 194 (pV g) } (.fetch f)*(bk b 198 (atC s { x with state:=3 } { D with fp:=pV g,inn:=.iface 194 (pV g) })*REST)):=Sat.to_ex (f:=fun g9=>fact ((Value.iface 194 (pV g))=.iface 194 (pV g9)∧pV g=pV g9∧D.cp=.pointer none)*fetchH g9 f) g ((h7.to_fact ⟨rfl,rfl,hcp⟩).assoc')
  rw[hREST] at h8;unfold atX PAt.ask;rw[hf];exact h8.perm (by simp only;ac_rfl))
 have HCF:Hid (∀w1 g,Sat ω w1 (fetchH g f*(atX b s x D*F))→AtCf b s x.me x.stamp D w1):=h_ (fun w1 g hw=>atCf_of hw)
 have HW0:Hid (∀q,Sat ω (w.drewN q) (atX b s x D*F)):=h_ (fun q=>hx.drewN q)
 generalize stripeOf p s.stripes s.wide=st at *
 generalize x.me=me at *
 generalize x.stamp=stamp at *
 go_enter Tryz.func129,Tryz.ntmps129;go_wp2;refine gN (AtCf b s me stamp D) HS0 fun hh0=>?_
 refine tH 0 ?_ rfl ?_ (tH 1 ?_ rfl ?_ (tH 2 ?_ rfl ?_ (tH 3 ?_ rfl ?_ (tH 4 ?_ rfl ?_ (tH 5 ?_ rfl ?_ (tH 6 ?_ rfl ?_ (tH 7 ?_ rfl ?_ (tH 8 ?_ rfl ?_ (tH 9 ?_ rfl ?_ (tH 10 ?_ rfl ?_ (tH 11 ?_ rfl ?_ (tH 12 ?_ rfl ?_ (tH 13 ?_ rfl ?_ (tH 14 ?_ rfl ?_ (tH 15 ?_ rfl ?_ (tH 16 ?_ rfl ?_ (tH 17 ?_ rfl ?_ (tH 18 ?_ rfl ?_ (tH 20 ?_ rfl ?_ (tH 21 ?_ rfl ?_ (tH 22 ?_ rfl ?_ (tH 23 ?_ rfl ?_ (tH 24 ?_ rfl ?_ (tH 25 ?_ rfl ?_ (tH 26 ?_ rfl ?_ (tH 27 ?_ rfl ?_ (tH 28 ?_ rfl ?_ ?_)))))))))))))))))))))))))));all_goals (try (
  intro w hSw;have d0:=hSw.c0;have d2:=hSw.c2;have d3:=hSw.c3;have d6:=hSw.c6;have d21:=hSw.c21;have d13:=hSw.c13;have dl:=hSw.lt;try simp only[sP]
  go_simp<;>(try with_reducible rfl)))
 try simp only[sP]
 refine oH 19 rfl fun K hK=>?_
 go_simp;go_at_call 159;refine(HOF.o _).mono ?_;rintro e wA ⟨rfl,qa,rfl⟩;first|(refine hK.q ?_ fun hh1=>?_)|(go_wp2_with fail;refine hK.q ?_ fun hh1=>?_)
 ·exact HS0.drewN qa
 try simp only[sP]
 refine oH 29 rfl fun K hK=>?_
 go_simp;go_at_call 158;refine(HFE.o _ (HW0.o _)).mono ?_;rintro e wB ⟨g,rfl,hs⟩;have HT:=h_ hs;first|(refine hK.q ?_ fun hh2=>?_)|(go_wp2_with fail;refine hK.q ?_ fun hh2=>?_)
 ·exact HCF.o _ _ HT.o
 try simp only[sP]
 refine tH 30 ?_ rfl ?_ (tH 31 ?_ rfl ?_ ?_);all_goals (try (
  intro w hSw;have d0:=hSw.c0;have d2:=hSw.c2;have d3:=hSw.c3;have d6:=hSw.c6;have d21:=hSw.c21;have d13:=hSw.c13;have dl:=hSw.lt;try simp only[sP]
  go_simp<;>(try with_reducible rfl)))
 try simp only[sP]
 refine oH 32 rfl fun K hK=>?_
 obtain⟨k1,k2,k3,u9,k4⟩:=HK.o _ _ HT.o;unfold pV at k1;go_simp;first|(refine hK.q ?_ fun hh3=>?_)|(go_wp2_with fail;refine hK.q ?_ fun hh3=>?_)
 ·exact(HCF.o _ _ HT.o).setCell (i:=16) (by omega) _
 try simp only[sP]
 refine dN ?_;have hcc:World.cell? _ ⟨b,16,none⟩=some (.pointer (some ⟨g,0,none⟩)):=k1.blk.cell 16;have hcl:=k1.blk.lt;unfold pV at HEN;go_wp2_with (go_at_call 134;refine(HEN.o _ _ k1).mono ?_;rintro e w5 ⟨rfl,hs⟩;have HZ:=h_ hs);exact bodyPost_end (results_none rfl _ _ _) rfl ⟨rfl,HZ.o⟩
theorem at_later (ω w:World)(F:HP)(b:Nat)(s:PSt)(x:PAt)(h:Sat ω w (atH b s x*F))(k:Nat)(hn:∀c,x.inner≠.commit c)(hr:x.reads.length≤1000):
  Calls Tryz.prog 131 #[.pointer (some ⟨b,0,none⟩),.int .i64 k] w (Rets ω F (.tuple #[]) (atH b s (x.later s k))):=by
 obtain⟨D,hx⟩:=atH_of h;have hcp:D.cp=.pointer none:=by
  rcases at_co hx with⟨c,_,_,hi,_⟩|⟨_,hc⟩
  ·exact absurd hi (hn c)
  ·exact hc
 have HS0:AtCf b s x.me x.stamp D w.drew:=(atCf_of (hx.emp_)).drewN 1;have HALL:Hid (∀q,Calls Tryz.prog 105 #[.pointer (some ⟨D.db,0,none⟩)] (w.drewN q) fun e w'=>∃A c,e=.returned (.slice A x.reads.length c)∧Sat ω w' (row 148 2 (.slice A x.reads.length c) x.reads.length (vS x.reads)*(atX b s x D*F))):=h_ (fun q=>by
  obtain⟨G,h1,h2⟩:=at_rd (hx.drewN q);refine(rd_all ω _ G D.db x.reads h1 hr).mono ?_;rintro e w1 ⟨A,c,rfl,h3⟩;exact⟨A,c,rfl,h2 w1 _ x.reads h3⟩)
 obtain⟨f,hf⟩:∃f,PEx.new x.me s.spins x.reads=f:=⟨_,rfl⟩;have HFE:Hid (∀w1 A c,Sat ω w1 (row 148 2 (.slice A x.reads.length c) x.reads.length (vS x.reads)*(atX b s x D*F))→Calls Tryz.prog 160 #[.int .i64 x.me,.int .i64 s.spins,.slice A x.reads.length c] w1 (RetP ω (atX b s x D*F) fun g=>extH g f)):=h_ (fun w1 A c hw=>by
  refine(ex_new ω w1 _ x.me s.spins x.reads A c hr hw).mono ?_;rintro e w2 ⟨g,rfl,h3⟩;rw[hf] at h3;exact⟨g,rfl,h3.swap.right⟩)
 obtain⟨REST,hREST⟩:∃REST,REST=itH D.rb D.vb x.run x.v*(rdH D.db x.reads*F):=⟨_,rfl⟩;have HK:Hid (∀w1 g,Sat ω w1 (extH g f*(atX b s x D*F))→Sat ω (w1.setCell ⟨b,17,none⟩ (pV g)) (bk b 198 (atC s x { D with ep:=pV g })*(extH g f*REST))∧w1.frozen? ⟨b,17,none⟩=false∧b<w1.heap.size∧∃u,w1.cell? ⟨b,17,none⟩=some u):=h_ (fun w1 g hw=>by
  unfold atX at hw;have h5:Sat ω w1 (bk b 198 (atC s x D)*(inH D x.inner*(extH g f*REST))):=hw.perm (by rw[hREST];ac_rfl)
  have hb:=h5.blk;exact⟨((h5.put 17 (pV g) (cs':=atC s x { D with ep:=pV g }) rfl).swap).right,hb.frozen 17,hb.lt,_,hb.cell 17⟩)
 have HEN:Hid (∀w1 g,Sat ω w1 (bk b 198 (atC s x { D with ep:=pV g })*(extH g f*REST))→Calls Tryz.prog 134 #[.pointer (some ⟨b,0,none⟩),.int .i64 k,.iface 195 (pV g)] w1 (Rets ω F (.tuple #[]) (atH b s (x.later s k)))):=h_ (fun w1 g hw=>by
  refine(at_enter ω w1 _ b s x { D with ep:=pV g } hw k _ g).mono ?_
  rintro e w2 ⟨rfl,h6⟩;refine⟨rfl,atH_to (D:={ D with ep:=pV g,inn:=.iface 195 (pV g) }) ?_⟩
  have h7:Sat ω w2 (extH g f*(bk b 198 (atC s { x with state:=k } { D with ep:=pV g,inn:=.iface 195 (pV g) })*REST)):=h6.swap
  have h8:Sat ω w2 (inH { D with ep:=pV g,inn:=.iface 195 (pV g) } (.extend f)*(bk b 198 (atC s { x with state:=k } { D with ep:=pV g,inn:=.iface 195 (pV g) })*REST)):=Sat.to_ex (f:=fun g9=>fact ((Value.iface 195 (pV g))=.iface 195 (pV g9)∧pV g=pV g9∧D.cp=.pointer none)*extH g9 f) g ((h7.to_fact ⟨rfl,rfl,hcp⟩).assoc')
  rw[hREST] at h8;unfold atX PAt.later;rw[hf];exact h8.perm (by simp only;ac_rfl))
 have HCF:Hid (∀w1 g,Sat ω w1 (extH g f*(atX b s x D*F))→AtCf b s x.me x.stamp D w1):=h_ (fun w1 g hw=>atCf_of hw)
 have HCR:Hid (∀w1 A c,Sat ω w1 (row 148 2 (.slice A x.reads.length c) x.reads.length (vS x.reads)*(atX b s x D*F))→AtCf b s x.me x.stamp D w1):=h_ (fun w1 A c hw=>atCf_of hw)
 generalize x.me=me at *
 generalize x.stamp=stamp at *
 generalize x.reads.length=rl at *
 go_enter Tryz.func131,Tryz.ntmps131;go_wp2;refine gN (AtCf b s me stamp D) HS0 fun hh0=>?_
 refine tH 0 ?_ rfl ?_ (tH 1 ?_ rfl ?_ (tH 2 ?_ rfl ?_ (tH 3 ?_ rfl ?_ (tH 4 ?_ rfl ?_ (tH 5 ?_ rfl ?_ (tH 6 ?_ rfl ?_ (tH 7 ?_ rfl ?_ (tH 8 ?_ rfl ?_ (tH 9 ?_ rfl ?_ (tH 10 ?_ rfl ?_ (tH 11 ?_ rfl ?_ (tH 12 ?_ rfl ?_ (tH 13 ?_ rfl ?_ ?_)))))))))))));all_goals (try (
  intro w hSw;have d0:=hSw.c0;have d2:=hSw.c2;have d3:=hSw.c3;have d6:=hSw.c6;have d21:=hSw.c21;have d13:=hSw.c13;have dl:=hSw.lt;try simp only[sP]
  go_simp<;>(try with_reducible rfl)))
 try simp only[sP]
 refine oH 14 rfl fun K hK=>?_
 go_simp;go_at_call 105;refine(HALL.o _).mono ?_;rintro e wA ⟨A,c,rfl,hs⟩;have HR:=h_ hs;(try go_wp2_with fail);refine hK.q ?_ fun hh1=>?_
 ·exact HCR.o _ _ _ HR.o
 try simp only[sP]
 refine oH 15 rfl fun K hK=>?_
 go_simp;go_at_call 160;refine(HFE.o _ _ _ HR.o).mono ?_;rintro e wB ⟨g,rfl,hs⟩;have HT:=h_ hs;(try go_wp2_with fail);refine hK.q ?_ fun hh2=>?_
 ·exact HCF.o _ _ HT.o
 try simp only[sP]
 refine tH 16 ?_ rfl ?_ (tH 17 ?_ rfl ?_ ?_);all_goals (try (
  intro w hSw;have d0:=hSw.c0;have d2:=hSw.c2;have d3:=hSw.c3;have d6:=hSw.c6;have d21:=hSw.c21;have d13:=hSw.c13;have dl:=hSw.lt;try simp only[sP]
  go_simp<;>(try with_reducible rfl)))
 try simp only[sP]
 refine oH 18 rfl fun K hK=>?_
 obtain⟨k1,k2,k3,u9,k4⟩:=HK.o _ _ HT.o;unfold pV at k1;go_simp;(try go_wp2_with fail);refine hK.q ?_ fun hh3=>?_
 ·exact(HCF.o _ _ HT.o).setCell (i:=17) (by omega) _
 try simp only[sP]
 refine dN ?_;have hcc:World.cell? _ ⟨b,17,none⟩=some (.pointer (some ⟨g,0,none⟩)):=k1.blk.cell 17;have hcl:=k1.blk.lt;unfold pV at HEN;go_wp2_with (go_at_call 134;refine(HEN.o _ _ k1).mono ?_;rintro e w5 ⟨rfl,hs⟩;have HZ:=h_ hs);exact bodyPost_end (results_none rfl _ _ _) rfl ⟨rfl,HZ.o⟩
theorem infoPartZ_:(Tryz.prog.info? 346).map (fun i=>(i.zero,i.size,i.bytes))=some (some (.agg #[.int .i64 0,.int .i64 0,.int .u64 0,.int .u64 0,.int .u64 0,.int .u64 0,.int .u64 0,.int .u64 0,.int .u64 0,.int .u64 0,.int .i64 0]),11,88):=by kernel_rfl
theorem ip18 {ω w:World}{P F:HP}{b:Nat}{t:TypeId}{v0 v1 v2 v3 v4 v5 v6 v7 v8 v9 v10 v11 v12 v13 v14 v15 v16 v17 u:Value}(h:Sat ω w (P*(bk b t #[v0,v1,v2,v3,v4,v5,v6,v7,v8,v9,v10,v11,v12,v13,v14,v15,v16,v17,u]*F)))(v:Value):Sat ω (w.setCell ⟨b,18,none⟩ v) (P*(bk b t #[v0,v1,v2,v3,v4,v5,v6,v7,v8,v9,v10,v11,v12,v13,v14,v15,v16,v17,v]*F)):=(h.swap.put 18 v rfl).swap
theorem ip_begin (ω w:World)(F:HP)(b vb:Nat)(x:PIt)(v:PVw)(h:Sat ω w (itH b vb x v*F))(hr:x.regs.length=8)(ho:v.ok)(hn:x.opens.length≤100)(hl:x.out.length≤100)(op:Int)(p:Nat):
  Calls Tryz.prog 251 #[.pointer (some ⟨b,0,none⟩),.int .i64 op,.int .i64 p] w (Rets ω F (.int .i64 ((x.begin v op p).1:Int)) (itH b vb (x.begin v op p).2.1 (x.begin v op p).2.2)):=by
 obtain⟨D,hD,hx⟩:=itH_of h;obtain⟨R,hR⟩:∃R,v.open_=R:=⟨_,rfl⟩;have hE:x.begin v op p=if R.1≠0 then(R.1,x,R.2) else(0,{ x with opens:=x.opens++[⟨op,p,x.regs,x.out.length⟩] },R.2):=by unfold PIt.begin;rw[hR]
 have HO:Hid (Calls Tryz.prog 319 #[.pointer (some ⟨vb,0,none⟩)] w (Rets ω (itX b x D*F) (.int .i64 R.1) (vwH vb R.2))):=h_ (by
  have h9:=vw_open ω w (itX b x D*F) vb v hx.swap ho;rw[hR] at h9;exact h9)
 have c1:w.cell? ⟨b,1,none⟩=some (.pointer (some ⟨vb,0,none⟩)):=by
  have h9:=hx.assoc.blk.cell 1;rw[itC_pre x D 1 (by omega)] at h9
  rw[h9,←hD];rfl
 have lb:=hx.assoc.blk.lt;obtain⟨re,rv⟩:=R;rw[hE];by_cases hre:re=0
 ·subst hre;rw[if_neg (by simp)]
  obtain⟨code,fin,err,regs,out,at_,next,left,opens⟩:=x;obtain⟨r0,r1,r2,r3,r4,r5,r6,r7,rfl⟩:=regs8 hr;obtain⟨pA,pc,mA,mc,oA,oc,vb',sb⟩:=D;simp only at hD hn hl;subst hD;obtain⟨k,hk⟩:∃k,opens.length=k:=⟨_,rfl⟩;obtain⟨N,hN⟩:∃N,out.length=N:=⟨_,rfl⟩;obtain⟨i0,hi0,hz⟩:=Option.map_eq_some_iff.1 infoPartZ_;simp only[Prod.mk.injEq] at hz;obtain⟨hz0,hz1,hz2⟩:=hz;have HI:=h_ hi0;have HZ0:=h_ hz0;have HZ1:=h_ hz1;have HZ2:=h_ hz2;obtain⟨G,hG⟩:∃G,G=row 87 5 (.slice pA code.length pc) code.length (code.flatMap insV)*(row 3 1 (.slice mA (matchP code).length mc) (matchP code).length ((matchP code).map (Value.int .i64))*(vwH vb' rv*F)):=⟨_,rfl⟩;have HX:Hid (∀w1,Sat ω w1 (vwH vb' rv*(itX b ⟨code,fin,err,[r0,r1,r2,r3,r4,r5,r6,r7],out,at_,next,left,opens⟩ ⟨pA,pc,mA,mc,oA,oc,vb',sb⟩*F))→Sat ω w1 (row 346 11 (.slice oA k oc) k (opens.flatMap ptV)*(bk b 245 #[.slice pA code.length pc,pV vb',.slice mA (matchP code).length mc,.int .i64 0,.int .i64 err,.int .i64 fin,.int .u64 r0,.int .u64 r1,.int .u64 r2,.int .u64 r3,.int .u64 r4,.int .u64 r5,.int .u64 r6,.int .u64 r7,pV sb,.int .i64 at_,.int .i64 next,.int .i64 left,.slice oA k oc]*(slH sb out*G)))):=h_ (fun w1 h1=>by
   rw[hG,←hk];exact h1.perm (by unfold itX itC;simp only[List.map_cons,List.map_nil,List.cons_append,List.nil_append];ac_rfl))
  have HLEN:Hid (∀w1 P,Sat ω w1 (P*(slH sb out*G))→Calls Tryz.prog 320 #[.pointer (some ⟨sb,0,none⟩)] w1 fun e w'=>e=.returned (.int .i64 N)∧w'=w1):=h_ (fun w1 P h1=>by
   have h9:=sl_len ω w1 _ sb out h1.right (by omega)
   rw[hN] at h9;exact h9)
  have HFI:Hid (∀w2 A' c',Sat ω w2 (row 346 11 (.slice A' (k+1) c') (k+1) (opens.flatMap ptV++[.int .i64 op,.int .i64 p,.int .u64 r0,.int .u64 r1,.int .u64 r2,.int .u64 r3,.int .u64 r4,.int .u64 r5,.int .u64 r6,.int .u64 r7,.int .i64 N])*(bk b 245 #[.slice pA code.length pc,pV vb',.slice mA (matchP code).length mc,.int .i64 0,.int .i64 err,.int .i64 fin,.int .u64 r0,.int .u64 r1,.int .u64 r2,.int .u64 r3,.int .u64 r4,.int .u64 r5,.int .u64 r6,.int .u64 r7,pV sb,.int .i64 at_,.int .i64 next,.int .i64 left,.slice A' (k+1) c']*(slH sb out*G)))→Sat ω w2 (itH b vb' ⟨code,fin,err,[r0,r1,r2,r3,r4,r5,r6,r7],out,at_,next,left,opens++[⟨op,p,[r0,r1,r2,r3,r4,r5,r6,r7],out.length⟩]⟩ rv*F)):=h_ (fun w2 A' c' h2=>by
   refine itH_to (D:=⟨pA,pc,mA,mc,A',c',vb',sb⟩) rfl ?_;rw[hG] at h2;exact h2.perm (by
    unfold itX itC;simp only[List.map_cons,List.map_nil,List.cons_append,List.nil_append,List.length_append,List.length_singleton,hk,hN,List.flatMap_append,List.flatMap_cons,List.flatMap_nil,ptV,List.append_nil];ac_rfl))
  have HRD:Hid (∀(w1:World),Reads (w1.alloc (.cells #[.int .i64 op,.int .i64 p,.int .u64 r0,.int .u64 r1,.int .u64 r2,.int .u64 r3,.int .u64 r4,.int .u64 r5,.int .u64 r6,.int .u64 r7,.int .i64 N] 346)) (w1.heap.size+1) 11 (some ⟨w1.heap.size,0,none⟩) 1 [.int .i64 op,.int .i64 p,.int .u64 r0,.int .u64 r1,.int .u64 r2,.int .u64 r3,.int .u64 r4,.int .u64 r5,.int .u64 r6,.int .u64 r7,.int .i64 N]):=h_ (fun w1=>by
   have h9:=Reads.of_blk (size:=11) (n:=1) (Blk.new w1 346 #[.int .i64 op,.int .i64 p,.int .u64 r0,.int .u64 r1,.int .u64 r2,.int .u64 r3,.int .u64 r4,.int .u64 r5,.int .u64 r6,.int .u64 r7,.int .i64 N]) rfl;rw[World.size_alloc] at h9;exact h9)
  have HON:Hid (∀u∈[Value.int .i64 op,.int .i64 p,.int .u64 r0,.int .u64 r1,.int .u64 r2,.int .u64 r3,.int .u64 r4,.int .u64 r5,.int .u64 r6,.int .u64 r7,.int .i64 N],u.oneCell'=true):=h_ (by intro u hu;simp at hu;rcases hu with rfl|rfl|rfl|rfl|rfl|rfl|rfl|rfl|rfl|rfl|rfl<;>rfl)
  simp only at HO;have hk100:k≤100:=by omega
  clear h hx hR hE ho hn hl hr hG hi0 hz0 hz1 hz2 hN hk;go_enter Tryz.func251,Tryz.ntmps251;go_wp2_with (go_at_call 319;refine(HO.o).mono ?_;rintro e w1 ⟨rfl,hs⟩;have hy:=HX.o _ hs;have HS:=h_ hy;clear hs hy);have kk:=HS.o.right.blk;have m6:=kk.cell 6;have m7:=kk.cell 7;have m8:=kk.cell 8;have m9:=kk.cell 9;have m10:=kk.cell 10;have m11:=kk.cell 11;have m12:=kk.cell 12;have m13:=kk.cell 13;have m14:w1.cell? ⟨b,14,none⟩=some (.pointer (some ⟨sb,0,none⟩)):=kk.cell 14;have m18:=kk.cell 18;have mf:=kk.frozen;have ml:=kk.lt;have ml1:b<w1.heap.size+1:=by omega
  have m99:∀o,(w1.drew.alloc o).cell? ⟨b,18,none⟩=some (.slice oA k oc):=fun o=>(HS.o.drew.junk o).right.blk.cell 18
  clear kk;refine wp_region_any (by kernel_rfl) ?_
  try (change wpAny _ _ _ _ _ _ _ (World.drew _))
  refine tF 0 ?_ rfl ?_ (tF 1 ?_ rfl ?_ (tF 5 ?_ rfl ?_ (tF 6 ?_ rfl ?_ (tF 7 ?_ rfl ?_ (tF 11 ?_ rfl ?_ (tF 2 ?_ rfl ?_ (tF 8 ?_ rfl ?_ (tF 12 ?_ rfl ?_ (tF 3 ?_ rfl ?_ (tF 9 ?_ rfl ?_ (tF 13 ?_ rfl ?_ ?_)))))))))));all_goals (try (
   intro w;go_simp<;>(try with_reducible rfl)))
  refine rF [4,10,14] ?_;refine AllReady.cons rfl (fun K hK=>?_) ?_
  ·go_simp;refine hK _ _ ?_;clear hK K;refine rF [10,14] ?_;refine AllReady.cons rfl (fun K hK=>?_) ?_
   ·go_simp;refine hK _ _ ?_;clear hK K;refine oF 14 rfl fun K hK=>?_
    go_simp;refine hK _ _ ?_;clear hK K;refine oF 15 rfl fun K hK=>?_
    go_simp;go_at_call 320;refine(HLEN.o _ _ HS.o.drew.assoc').mono ?_;rintro e w9 ⟨rfl,rfl⟩;refine hK _ _ ?_;clear hK K;refine tF 16 ?_ rfl ?_ ?_;all_goals (try (
     intro w;go_simp<;>(try with_reducible rfl)))
    refine oF 17 rfl fun K hK=>?_
    go_simp;refine hK _ _ ?_;clear hK K;refine oF 18 rfl fun K hK=>?_
    refine sap 243 346 11 88 Tryz.underlying243 HI.o HZ0.o HZ1.o HZ2.o (HS.o.drew.junk _) (HRD.o _) HON.o ?_;intro A' c' w2 hs;have kb:=hs.right.blk;have qf:=kb.frozen;have ql:=kb.lt;have q1:=kb.cell 18;have HY:=h_ (ip18 hs (.slice A' (k+1) c'));clear hs kb;refine hK _ _ ?_;clear hK K;refine tF 19 ?_ rfl ?_ (tF 20 ?_ rfl ?_ ?_);all_goals (try (
     intro w;go_simp<;>(try with_reducible rfl)))
    refine oF 21 rfl fun K hK=>?_
    go_simp;refine hK _ _ ?_;clear hK K;refine dF ?_;go_wp2;go_ret;exact⟨rfl,HFI.o _ _ _ HY.o⟩
   refine nF rfl fun K hK=>?_
   ·go_simp;refine hK _ _ ?_;clear hK K;refine rF [10,15] ?_;refine AllReady.cons rfl (fun K hK=>?_) ?_
    ·go_simp;refine hK _ _ ?_;clear hK K;refine oF 15 rfl fun K hK=>?_
     go_simp;go_at_call 320;refine(HLEN.o _ _ HS.o.drew.assoc').mono ?_;rintro e w9 ⟨rfl,rfl⟩;refine hK _ _ ?_;clear hK K;refine tF 16 ?_ rfl ?_ ?_;all_goals (try (
      intro w;go_simp<;>(try with_reducible rfl)))
     refine oF 17 rfl fun K hK=>?_
     go_simp;refine hK _ _ ?_;clear hK K;refine oF 18 rfl fun K hK=>?_
     refine sap 243 346 11 88 Tryz.underlying243 HI.o HZ0.o HZ1.o HZ2.o (HS.o.drew.junk _) (HRD.o _) HON.o ?_;intro A' c' w2 hs;have kb:=hs.right.blk;have qf:=kb.frozen;have ql:=kb.lt;have q1:=kb.cell 18;have HY:=h_ (ip18 hs (.slice A' (k+1) c'));clear hs kb;refine hK _ _ ?_;clear hK K;refine tF 19 ?_ rfl ?_ (tF 20 ?_ rfl ?_ ?_);all_goals (try (
      intro w;go_simp<;>(try with_reducible rfl)))
     refine oF 21 rfl fun K hK=>?_
     go_simp;refine hK _ _ ?_;clear hK K;refine dF ?_;go_wp2;go_ret;exact⟨rfl,HFI.o _ _ _ HY.o⟩
    refine nF rfl fun K hK=>?_
    ·go_simp;go_at_call 320;refine(HLEN.o _ _ HS.o.drew.assoc').mono ?_;rintro e w9 ⟨rfl,rfl⟩;refine hK _ _ ?_;clear hK K;refine oF 10 rfl fun K hK=>?_
     go_simp;refine hK _ _ ?_;clear hK K;refine tF 16 ?_ rfl ?_ ?_;all_goals (try (
      intro w;go_simp<;>(try with_reducible rfl)))
     refine oF 17 rfl fun K hK=>?_
     go_simp;refine hK _ _ ?_;clear hK K;refine oF 18 rfl fun K hK=>?_
     refine sap 243 346 11 88 Tryz.underlying243 HI.o HZ0.o HZ1.o HZ2.o (HS.o.drew.junk _) (HRD.o _) HON.o ?_;intro A' c' w2 hs;have kb:=hs.right.blk;have qf:=kb.frozen;have ql:=kb.lt;have q1:=kb.cell 18;have HY:=h_ (ip18 hs (.slice A' (k+1) c'));clear hs kb;refine hK _ _ ?_;clear hK K;refine tF 19 ?_ rfl ?_ (tF 20 ?_ rfl ?_ ?_);all_goals (try (
      intro w;go_simp<;>(try with_reducible rfl)))
     refine oF 21 rfl fun K hK=>?_
     go_simp;refine hK _ _ ?_;clear hK K;refine dF ?_;go_wp2;go_ret;exact⟨rfl,HFI.o _ _ _ HY.o⟩
  refine AllReady.cons rfl (fun K hK=>?_) ?_
  ·go_simp;refine hK _ _ ?_;clear hK K;refine rF [4,14] ?_;refine AllReady.cons rfl (fun K hK=>?_) ?_
   ·go_simp;refine hK _ _ ?_;clear hK K;refine oF 14 rfl fun K hK=>?_
    go_simp;refine hK _ _ ?_;clear hK K;refine oF 15 rfl fun K hK=>?_
    go_simp;go_at_call 320;refine(HLEN.o _ _ HS.o.drew.assoc').mono ?_;rintro e w9 ⟨rfl,rfl⟩;refine hK _ _ ?_;clear hK K;refine tF 16 ?_ rfl ?_ ?_;all_goals (try (
     intro w;go_simp<;>(try with_reducible rfl)))
    refine oF 17 rfl fun K hK=>?_
    go_simp;refine hK _ _ ?_;clear hK K;refine oF 18 rfl fun K hK=>?_
    refine sap 243 346 11 88 Tryz.underlying243 HI.o HZ0.o HZ1.o HZ2.o (HS.o.drew.junk _) (HRD.o _) HON.o ?_;intro A' c' w2 hs;have kb:=hs.right.blk;have qf:=kb.frozen;have ql:=kb.lt;have q1:=kb.cell 18;have HY:=h_ (ip18 hs (.slice A' (k+1) c'));clear hs kb;refine hK _ _ ?_;clear hK K;refine tF 19 ?_ rfl ?_ (tF 20 ?_ rfl ?_ ?_);all_goals (try (
     intro w;go_simp<;>(try with_reducible rfl)))
    refine oF 21 rfl fun K hK=>?_
    go_simp;refine hK _ _ ?_;clear hK K;refine dF ?_;go_wp2;go_ret;exact⟨rfl,HFI.o _ _ _ HY.o⟩
   refine nF rfl fun K hK=>?_
   ·go_simp;refine hK _ _ ?_;clear hK K;refine rF [4,15] ?_;refine AllReady.cons rfl (fun K hK=>?_) ?_
    ·go_simp;refine hK _ _ ?_;clear hK K;refine oF 15 rfl fun K hK=>?_
     go_simp;go_at_call 320;refine(HLEN.o _ _ HS.o.drew.assoc').mono ?_;rintro e w9 ⟨rfl,rfl⟩;refine hK _ _ ?_;clear hK K;refine tF 16 ?_ rfl ?_ ?_;all_goals (try (
      intro w;go_simp<;>(try with_reducible rfl)))
     refine oF 17 rfl fun K hK=>?_
     go_simp;refine hK _ _ ?_;clear hK K;refine oF 18 rfl fun K hK=>?_
     refine sap 243 346 11 88 Tryz.underlying243 HI.o HZ0.o HZ1.o HZ2.o (HS.o.drew.junk _) (HRD.o _) HON.o ?_;intro A' c' w2 hs;have kb:=hs.right.blk;have qf:=kb.frozen;have ql:=kb.lt;have q1:=kb.cell 18;have HY:=h_ (ip18 hs (.slice A' (k+1) c'));clear hs kb;refine hK _ _ ?_;clear hK K;refine tF 19 ?_ rfl ?_ (tF 20 ?_ rfl ?_ ?_);all_goals (try (
      intro w;go_simp<;>(try with_reducible rfl)))
     refine oF 21 rfl fun K hK=>?_
     go_simp;refine hK _ _ ?_;clear hK K;refine dF ?_;go_wp2;go_ret;exact⟨rfl,HFI.o _ _ _ HY.o⟩
    refine nF rfl fun K hK=>?_
    ·go_simp;go_at_call 320;refine(HLEN.o _ _ HS.o.drew.assoc').mono ?_;rintro e w9 ⟨rfl,rfl⟩;refine hK _ _ ?_;clear hK K;refine tF 16 ?_ rfl ?_ ?_;all_goals (try (
      intro w;go_simp<;>(try with_reducible rfl)))
     refine rF [4,17] ?_;refine AllReady.cons rfl (fun K hK=>?_) ?_
     ·go_simp;refine hK _ _ ?_;clear hK K;refine oF 17 rfl fun K hK=>?_
      go_simp;refine hK _ _ ?_;clear hK K;refine oF 18 rfl fun K hK=>?_
      refine sap 243 346 11 88 Tryz.underlying243 HI.o HZ0.o HZ1.o HZ2.o (HS.o.drew.junk _) (HRD.o _) HON.o ?_;intro A' c' w2 hs;have kb:=hs.right.blk;have qf:=kb.frozen;have ql:=kb.lt;have q1:=kb.cell 18;have HY:=h_ (ip18 hs (.slice A' (k+1) c'));clear hs kb;refine hK _ _ ?_;clear hK K;refine tF 19 ?_ rfl ?_ (tF 20 ?_ rfl ?_ ?_);all_goals (try (
       intro w;go_simp<;>(try with_reducible rfl)))
      refine oF 21 rfl fun K hK=>?_
      go_simp;refine hK _ _ ?_;clear hK K;refine dF ?_;go_wp2;go_ret;exact⟨rfl,HFI.o _ _ _ HY.o⟩
     refine nF rfl fun K hK=>?_
     ·go_simp;refine hK _ _ ?_;clear hK K;refine oF 4 rfl fun K hK=>?_
      go_simp;refine hK _ _ ?_;clear hK K;refine oF 18 rfl fun K hK=>?_
      refine sap 243 346 11 88 Tryz.underlying243 HI.o HZ0.o HZ1.o HZ2.o (HS.o.drew.junk _) (HRD.o _) HON.o ?_;intro A' c' w2 hs;have kb:=hs.right.blk;have qf:=kb.frozen;have ql:=kb.lt;have q1:=kb.cell 18;have HY:=h_ (ip18 hs (.slice A' (k+1) c'));clear hs kb;refine hK _ _ ?_;clear hK K;refine tF 19 ?_ rfl ?_ (tF 20 ?_ rfl ?_ ?_);all_goals (try (
       intro w;go_simp<;>(try with_reducible rfl)))
      refine oF 21 rfl fun K hK=>?_
      go_simp;refine hK _ _ ?_;clear hK K;refine dF ?_;go_wp2;go_ret;exact⟨rfl,HFI.o _ _ _ HY.o⟩
  refine nF rfl fun K hK=>?_
  ·go_simp;refine hK _ _ ?_;clear hK K;refine rF [4,10,15] ?_;refine AllReady.cons rfl (fun K hK=>?_) ?_
   ·go_simp;refine hK _ _ ?_;clear hK K;refine rF [10,15] ?_;refine AllReady.cons rfl (fun K hK=>?_) ?_
    ·go_simp;refine hK _ _ ?_;clear hK K;refine oF 15 rfl fun K hK=>?_
     go_simp;go_at_call 320;refine(HLEN.o _ _ HS.o.drew.assoc').mono ?_;rintro e w9 ⟨rfl,rfl⟩;refine hK _ _ ?_;clear hK K;refine tF 16 ?_ rfl ?_ ?_;all_goals (try (
      intro w;go_simp<;>(try with_reducible rfl)))
     refine oF 17 rfl fun K hK=>?_
     go_simp;refine hK _ _ ?_;clear hK K;refine oF 18 rfl fun K hK=>?_
     refine sap 243 346 11 88 Tryz.underlying243 HI.o HZ0.o HZ1.o HZ2.o (HS.o.drew.junk _) (HRD.o _) HON.o ?_;intro A' c' w2 hs;have kb:=hs.right.blk;have qf:=kb.frozen;have ql:=kb.lt;have q1:=kb.cell 18;have HY:=h_ (ip18 hs (.slice A' (k+1) c'));clear hs kb;refine hK _ _ ?_;clear hK K;refine tF 19 ?_ rfl ?_ (tF 20 ?_ rfl ?_ ?_);all_goals (try (
      intro w;go_simp<;>(try with_reducible rfl)))
     refine oF 21 rfl fun K hK=>?_
     go_simp;refine hK _ _ ?_;clear hK K;refine dF ?_;go_wp2;go_ret;exact⟨rfl,HFI.o _ _ _ HY.o⟩
    refine nF rfl fun K hK=>?_
    ·go_simp;go_at_call 320;refine(HLEN.o _ _ HS.o.drew.assoc').mono ?_;rintro e w9 ⟨rfl,rfl⟩;refine hK _ _ ?_;clear hK K;refine oF 10 rfl fun K hK=>?_
     go_simp;refine hK _ _ ?_;clear hK K;refine tF 16 ?_ rfl ?_ ?_;all_goals (try (
      intro w;go_simp<;>(try with_reducible rfl)))
     refine oF 17 rfl fun K hK=>?_
     go_simp;refine hK _ _ ?_;clear hK K;refine oF 18 rfl fun K hK=>?_
     refine sap 243 346 11 88 Tryz.underlying243 HI.o HZ0.o HZ1.o HZ2.o (HS.o.drew.junk _) (HRD.o _) HON.o ?_;intro A' c' w2 hs;have kb:=hs.right.blk;have qf:=kb.frozen;have ql:=kb.lt;have q1:=kb.cell 18;have HY:=h_ (ip18 hs (.slice A' (k+1) c'));clear hs kb;refine hK _ _ ?_;clear hK K;refine tF 19 ?_ rfl ?_ (tF 20 ?_ rfl ?_ ?_);all_goals (try (
      intro w;go_simp<;>(try with_reducible rfl)))
     refine oF 21 rfl fun K hK=>?_
     go_simp;refine hK _ _ ?_;clear hK K;refine dF ?_;go_wp2;go_ret;exact⟨rfl,HFI.o _ _ _ HY.o⟩
   refine AllReady.cons rfl (fun K hK=>?_) ?_
   ·go_simp;refine hK _ _ ?_;clear hK K;refine rF [4,15] ?_;refine AllReady.cons rfl (fun K hK=>?_) ?_
    ·go_simp;refine hK _ _ ?_;clear hK K;refine oF 15 rfl fun K hK=>?_
     go_simp;go_at_call 320;refine(HLEN.o _ _ HS.o.drew.assoc').mono ?_;rintro e w9 ⟨rfl,rfl⟩;refine hK _ _ ?_;clear hK K;refine tF 16 ?_ rfl ?_ ?_;all_goals (try (
      intro w;go_simp<;>(try with_reducible rfl)))
     refine oF 17 rfl fun K hK=>?_
     go_simp;refine hK _ _ ?_;clear hK K;refine oF 18 rfl fun K hK=>?_
     refine sap 243 346 11 88 Tryz.underlying243 HI.o HZ0.o HZ1.o HZ2.o (HS.o.drew.junk _) (HRD.o _) HON.o ?_;intro A' c' w2 hs;have kb:=hs.right.blk;have qf:=kb.frozen;have ql:=kb.lt;have q1:=kb.cell 18;have HY:=h_ (ip18 hs (.slice A' (k+1) c'));clear hs kb;refine hK _ _ ?_;clear hK K;refine tF 19 ?_ rfl ?_ (tF 20 ?_ rfl ?_ ?_);all_goals (try (
      intro w;go_simp<;>(try with_reducible rfl)))
     refine oF 21 rfl fun K hK=>?_
     go_simp;refine hK _ _ ?_;clear hK K;refine dF ?_;go_wp2;go_ret;exact⟨rfl,HFI.o _ _ _ HY.o⟩
    refine nF rfl fun K hK=>?_
    ·go_simp;go_at_call 320;refine(HLEN.o _ _ HS.o.drew.assoc').mono ?_;rintro e w9 ⟨rfl,rfl⟩;refine hK _ _ ?_;clear hK K;refine tF 16 ?_ rfl ?_ ?_;all_goals (try (
      intro w;go_simp<;>(try with_reducible rfl)))
     refine rF [4,17] ?_;refine AllReady.cons rfl (fun K hK=>?_) ?_
     ·go_simp;refine hK _ _ ?_;clear hK K;refine oF 17 rfl fun K hK=>?_
      go_simp;refine hK _ _ ?_;clear hK K;refine oF 18 rfl fun K hK=>?_
      refine sap 243 346 11 88 Tryz.underlying243 HI.o HZ0.o HZ1.o HZ2.o (HS.o.drew.junk _) (HRD.o _) HON.o ?_;intro A' c' w2 hs;have kb:=hs.right.blk;have qf:=kb.frozen;have ql:=kb.lt;have q1:=kb.cell 18;have HY:=h_ (ip18 hs (.slice A' (k+1) c'));clear hs kb;refine hK _ _ ?_;clear hK K;refine tF 19 ?_ rfl ?_ (tF 20 ?_ rfl ?_ ?_);all_goals (try (
       intro w;go_simp<;>(try with_reducible rfl)))
      refine oF 21 rfl fun K hK=>?_
      go_simp;refine hK _ _ ?_;clear hK K;refine dF ?_;go_wp2;go_ret;exact⟨rfl,HFI.o _ _ _ HY.o⟩
     refine nF rfl fun K hK=>?_
     ·go_simp;refine hK _ _ ?_;clear hK K;refine oF 4 rfl fun K hK=>?_
      go_simp;refine hK _ _ ?_;clear hK K;refine oF 18 rfl fun K hK=>?_
      refine sap 243 346 11 88 Tryz.underlying243 HI.o HZ0.o HZ1.o HZ2.o (HS.o.drew.junk _) (HRD.o _) HON.o ?_;intro A' c' w2 hs;have kb:=hs.right.blk;have qf:=kb.frozen;have ql:=kb.lt;have q1:=kb.cell 18;have HY:=h_ (ip18 hs (.slice A' (k+1) c'));clear hs kb;refine hK _ _ ?_;clear hK K;refine tF 19 ?_ rfl ?_ (tF 20 ?_ rfl ?_ ?_);all_goals (try (
       intro w;go_simp<;>(try with_reducible rfl)))
      refine oF 21 rfl fun K hK=>?_
      go_simp;refine hK _ _ ?_;clear hK K;refine dF ?_;go_wp2;go_ret;exact⟨rfl,HFI.o _ _ _ HY.o⟩
   refine nF rfl fun K hK=>?_
   ·go_simp;go_at_call 320;refine(HLEN.o _ _ HS.o.drew.assoc').mono ?_;rintro e w9 ⟨rfl,rfl⟩;refine hK _ _ ?_;clear hK K;refine rF [4,10] ?_;refine AllReady.cons rfl (fun K hK=>?_) ?_
    ·go_simp;refine hK _ _ ?_;clear hK K;refine oF 10 rfl fun K hK=>?_
     go_simp;refine hK _ _ ?_;clear hK K;refine tF 16 ?_ rfl ?_ ?_;all_goals (try (
      intro w;go_simp<;>(try with_reducible rfl)))
     refine oF 17 rfl fun K hK=>?_
     go_simp;refine hK _ _ ?_;clear hK K;refine oF 18 rfl fun K hK=>?_
     refine sap 243 346 11 88 Tryz.underlying243 HI.o HZ0.o HZ1.o HZ2.o (HS.o.drew.junk _) (HRD.o _) HON.o ?_;intro A' c' w2 hs;have kb:=hs.right.blk;have qf:=kb.frozen;have ql:=kb.lt;have q1:=kb.cell 18;have HY:=h_ (ip18 hs (.slice A' (k+1) c'));clear hs kb;refine hK _ _ ?_;clear hK K;refine tF 19 ?_ rfl ?_ (tF 20 ?_ rfl ?_ ?_);all_goals (try (
      intro w;go_simp<;>(try with_reducible rfl)))
     refine oF 21 rfl fun K hK=>?_
     go_simp;refine hK _ _ ?_;clear hK K;refine dF ?_;go_wp2;go_ret;exact⟨rfl,HFI.o _ _ _ HY.o⟩
    refine nF rfl fun K hK=>?_
    ·go_simp;refine hK _ _ ?_;clear hK K;refine tF 16 ?_ rfl ?_ ?_;all_goals (try (
      intro w;go_simp<;>(try with_reducible rfl)))
     refine rF [4,17] ?_;refine AllReady.cons rfl (fun K hK=>?_) ?_
     ·go_simp;refine hK _ _ ?_;clear hK K;refine oF 17 rfl fun K hK=>?_
      go_simp;refine hK _ _ ?_;clear hK K;refine oF 18 rfl fun K hK=>?_
      refine sap 243 346 11 88 Tryz.underlying243 HI.o HZ0.o HZ1.o HZ2.o (HS.o.drew.junk _) (HRD.o _) HON.o ?_;intro A' c' w2 hs;have kb:=hs.right.blk;have qf:=kb.frozen;have ql:=kb.lt;have q1:=kb.cell 18;have HY:=h_ (ip18 hs (.slice A' (k+1) c'));clear hs kb;refine hK _ _ ?_;clear hK K;refine tF 19 ?_ rfl ?_ (tF 20 ?_ rfl ?_ ?_);all_goals (try (
       intro w;go_simp<;>(try with_reducible rfl)))
      refine oF 21 rfl fun K hK=>?_
      go_simp;refine hK _ _ ?_;clear hK K;refine dF ?_;go_wp2;go_ret;exact⟨rfl,HFI.o _ _ _ HY.o⟩
     refine nF rfl fun K hK=>?_
     ·go_simp;refine hK _ _ ?_;clear hK K;refine oF 4 rfl fun K hK=>?_
      go_simp;refine hK _ _ ?_;clear hK K;refine oF 18 rfl fun K hK=>?_
      refine sap 243 346 11 88 Tryz.underlying243 HI.o HZ0.o HZ1.o HZ2.o (HS.o.drew.junk _) (HRD.o _) HON.o ?_;intro A' c' w2 hs;have kb:=hs.right.blk;have qf:=kb.frozen;have ql:=kb.lt;have q1:=kb.cell 18;have HY:=h_ (ip18 hs (.slice A' (k+1) c'));clear hs kb;refine hK _ _ ?_;clear hK K;refine tF 19 ?_ rfl ?_ (tF 20 ?_ rfl ?_ ?_);all_goals (try (
       intro w;go_simp<;>(try with_reducible rfl)))
      refine oF 21 rfl fun K hK=>?_
      go_simp;refine hK _ _ ?_;clear hK K;refine dF ?_;go_wp2;go_ret;exact⟨rfl,HFI.o _ _ _ HY.o⟩
 ·rw[if_pos hre];have d1:((re:Int) != 0)=true:=by simpa using hre
  have d2:((re:Int)==0)=false:=by simpa using hre
  have HF:Hid (∀w1,Sat ω w1 (vwH vb rv*(itX b x D*F))→Sat ω w1 (itH b vb x rv*F)):=h_ (fun w1 h1=>itH_to hD h1.swap)
  simp only at HO;clear h hx hD hR hE hre ho hn hl hr;go_enter Tryz.func251,Tryz.ntmps251;go_wp2_with (go_at_call 319;refine(HO.o).mono ?_;rintro e w1 ⟨rfl,hs⟩;have HS:=h_ hs;clear hs);go_ret;exact⟨rfl,HF.o _ HS.o⟩
theorem Sat.rowLast {ω w:World}{F:HP}{e:TypeId}{size n c:Nat}{A:Option Addr}{xs ys:List Value}(h:Sat ω w (row e size (.slice A (n+1) c) (n+1) (xs++ys)*F))(hx:xs.length=n*size)(hy:ys.length=size):
  ∃g,A=some ⟨g,0,none⟩∧g<w.heap.size∧∀j,j<size→w.cell? ⟨g,n*size+j,none⟩=ys[j]?:=by
 rcases h.cases with⟨h1,h2,_⟩|⟨g,cap,cur,h2,h3,h4,h5,h6,h7,h8⟩
 ·omega
 ·injection h2 with h2 _ _
  refine⟨g,h2,h8.blk.lt,fun j hj=>?_⟩
  have e1:(xs++ys)[n*size+j]?=ys[j]?:=by
   rw[List.getElem?_append_right (by omega),hx]
   congr 1
   omega
  rw[h8.blk.cell,←e1,←h6,List.getElem?_take,if_pos ?_]
  ·simp
  ·rw[Nat.succ_mul];omega
theorem ptV_len (l:List PPt)(h:∀p∈l,p.regs.length=8):(l.flatMap ptV).length=l.length*11:=by
 induction l with
 |nil=>rfl
 |cons p l ih =>
  have h1:=h p List.mem_cons_self;have h2:=ih (fun q hq=>h q (List.mem_cons_of_mem _ hq))
  simp only[List.flatMap_cons,List.length_append,h2,ptV,List.length_map,h1,List.length_cons,List.length_nil];omega
theorem ip_leave (ω w:World)(F:HP)(b vb:Nat)(x:PIt)(v:PVw)(h:Sat ω w (itH b vb x v*F))(hr:x.regs.length=8)(l:List PPt)(pt:PPt)(hp:x.opens=l++[pt])(hr2:pt.regs.length=8)(hall:∀p∈l,p.regs.length=8)(hn:l.length≤100):
  Calls Tryz.prog 252 #[.pointer (some ⟨b,0,none⟩)] w (Rets ω F (.agg (ptV pt).toArray) (itH b vb { x with opens:=l } v)):=by
 obtain⟨D,hD,hx⟩:=itH_of h;obtain⟨pA,pc,mA,mc,oA,oc,vb',sb⟩:=D;simp only at hD;subst hD;obtain⟨code,fin,err,regs,out,at_,next,left,opens⟩:=x;simp only at hr hp;subst hp;obtain⟨p0,p1,preg,p3⟩:=pt;simp only at hr2;obtain⟨r0,r1,r2,r3,r4,r5,r6,r7,rfl⟩:=regs8 hr2;obtain⟨k,hk⟩:∃k,l.length=k:=⟨_,rfl⟩;have hlen:(l++[(⟨p0,p1,[r0,r1,r2,r3,r4,r5,r6,r7],p3⟩:PPt)]).length=k+1:=by simp[hk]
 have c18:w.cell? ⟨b,18,none⟩=some (.slice oA (k+1) oc):=by
  have h9:=hx.assoc.blk.cell 18;rw[show(18:Nat)=14+4 from rfl,itC_post _ _ 4 hr (by omega)] at h9
  simp only[hlen] at h9;exact h9
 have lb:=hx.assoc.blk.lt;have fz:=hx.assoc.blk.frozen;have hROW:Sat ω w (row 346 11 (.slice oA (k+1) oc) (k+1) (l.flatMap ptV++ptV ⟨p0,p1,[r0,r1,r2,r3,r4,r5,r6,r7],p3⟩)*(bk b 245 (itC ⟨code,fin,err,regs,out,at_,next,left,l++[⟨p0,p1,[r0,r1,r2,r3,r4,r5,r6,r7],p3⟩]⟩ ⟨pA,pc,mA,mc,oA,oc,vb',sb⟩)*(row 87 5 (.slice pA code.length pc) code.length (code.flatMap insV)*(row 3 1 (.slice mA (matchP code).length mc) (matchP code).length ((matchP code).map (Value.int .i64))*(slH sb out*(vwH vb' v*F)))))):=by
  have e:(l++[(⟨p0,p1,[r0,r1,r2,r3,r4,r5,r6,r7],p3⟩:PPt)]).flatMap ptV=l.flatMap ptV++ptV ⟨p0,p1,[r0,r1,r2,r3,r4,r5,r6,r7],p3⟩:=by simp
  unfold itX at hx;simp only[hlen,e] at hx;exact hx.perm (by ac_rfl)
 obtain⟨g,rfl,lg,hc⟩:=hROW.rowLast (by rw[ptV_len l hall,hk]) rfl
 have q0:w.cell? ⟨g,k*11,none⟩=some (.int .i64 p0):=hc 0 (by omega)
 have q1:w.cell? ⟨g,k*11+1,none⟩=some (.int .i64 p1):=hc 1 (by omega)
 have q2:w.cell? ⟨g,k*11+2,none⟩=some (.int .u64 r0):=hc 2 (by omega)
 have q3:w.cell? ⟨g,k*11+3,none⟩=some (.int .u64 r1):=hc 3 (by omega)
 have q4:w.cell? ⟨g,k*11+4,none⟩=some (.int .u64 r2):=hc 4 (by omega)
 have q5:w.cell? ⟨g,k*11+5,none⟩=some (.int .u64 r3):=hc 5 (by omega)
 have q6:w.cell? ⟨g,k*11+6,none⟩=some (.int .u64 r4):=hc 6 (by omega)
 have q7:w.cell? ⟨g,k*11+7,none⟩=some (.int .u64 r5):=hc 7 (by omega)
 have q8:w.cell? ⟨g,k*11+8,none⟩=some (.int .u64 r6):=hc 8 (by omega)
 have q9:w.cell? ⟨g,k*11+9,none⟩=some (.int .u64 r7):=hc 9 (by omega)
 have q10:w.cell? ⟨g,k*11+10,none⟩=some (.int .i64 p3):=hc 10 (by omega)
 have hkc:k≤oc:=by
  rcases hROW.cases with⟨h1,h2,_⟩|⟨_,cap,_,h1,h2,_⟩
  ·omega
  ·injection h1 with _ _ h1;omega
 have HFI:Hid (∀w2 P,Sat ω w2 (P*(row 346 11 (.slice (some ⟨g,0,none⟩) (k+1) oc) (k+1) (l.flatMap ptV++ptV ⟨p0,p1,[r0,r1,r2,r3,r4,r5,r6,r7],p3⟩)*(bk b 245 (itC ⟨code,fin,err,regs,out,at_,next,left,l++[⟨p0,p1,[r0,r1,r2,r3,r4,r5,r6,r7],p3⟩]⟩ ⟨pA,pc,mA,mc,some ⟨g,0,none⟩,oc,vb',sb⟩)*(row 87 5 (.slice pA code.length pc) code.length (code.flatMap insV)*(row 3 1 (.slice mA (matchP code).length mc) (matchP code).length ((matchP code).map (Value.int .i64))*(slH sb out*(vwH vb' v*F)))))))→Sat ω (w2.setCell ⟨b,18,none⟩ (.slice (some ⟨g,0,none⟩) k oc)) (P*(itH b vb' ⟨code,fin,err,regs,out,at_,next,left,l⟩ v*F))):=h_ (fun w2 P h1=>by
  have h2:=h1.swap.rowCut (m:=k) (by omega)
  rw[List.take_left' (by rw[ptV_len l hall,hk])] at h2
  have h3:Sat ω w2 (bk b 245 (itC ⟨code,fin,err,regs,out,at_,next,left,l++[⟨p0,p1,[r0,r1,r2,r3,r4,r5,r6,r7],p3⟩]⟩ ⟨pA,pc,mA,mc,some ⟨g,0,none⟩,oc,vb',sb⟩)*(row 346 11 (.slice (some ⟨g,0,none⟩) k oc) k (l.flatMap ptV)*(P*(row 87 5 (.slice pA code.length pc) code.length (code.flatMap insV)*(row 3 1 (.slice mA (matchP code).length mc) (matchP code).length ((matchP code).map (Value.int .i64))*(slH sb out*(vwH vb' v*F))))))):=h2.perm (by ac_rfl)
  have h4:=h3.put 18 (.slice (some ⟨g,0,none⟩) k oc) (cs':=itC ⟨code,fin,err,regs,out,at_,next,left,l⟩ ⟨pA,pc,mA,mc,some ⟨g,0,none⟩,oc,vb',sb⟩) (by
   obtain⟨s0,s1,s2,s3,s4,s5,s6,s7,rfl⟩:=regs8 hr;simp[itC,hk])
  have h5:Sat ω _ (itX b ⟨code,fin,err,regs,out,at_,next,left,l⟩ ⟨pA,pc,mA,mc,some ⟨g,0,none⟩,oc,vb',sb⟩*(vwH vb' v*(P*F))):=h4.perm (by unfold itX;simp only[hk];ac_rfl)
  exact(itH_to rfl h5).swap)
 have HB:=h_ hROW;have hw:IntKind.i64.wrap (k:Int)=(k:Int):=by rw[IntKind.wrap_i64];omega
 have hm0:∀o o2,((w.alloc o).alloc o2).cell? ⟨b,18,none⟩=some (.slice (some ⟨g,0,none⟩) (k+1) oc):=fun o o2=>by
  have h9:=((HB.o.junk o).junk o2).right.blk.cell 18;rw[show(18:Nat)=14+4 from rfl,itC_post _ _ 4 hr (by omega)] at h9
  simp only[hlen] at h9;exact h9
 have hlt:(k:Int)<(k:Int)+1:=by omega
 have lb1:b<w.heap.size+1:=by omega
 have lb2:b<w.heap.size+1+1:=by omega
 have lg2:g<w.heap.size+1+1:=by omega
 have lg1:g<w.heap.size+1:=by omega
 clear h hx hc hROW hlen hall hr hr2 hk;go_enter Tryz.func252,Tryz.ntmps252;go_wp2;refine wp_region_any (by kernel_rfl) ?_
 try (change wpAny _ _ _ _ _ _ _ (World.drew _))
 refine tF 0 ?_ rfl ?_ (tF 4 ?_ rfl ?_ (tF 1 ?_ rfl ?_ (tF 5 ?_ rfl ?_ (tF 2 ?_ rfl ?_ (tF 6 ?_ rfl ?_ ?_)))));all_goals (try (
  intro w;go_simp<;>(try with_reducible rfl)))
 refine rF [3,7,12] ?_;refine AllReady.cons rfl (fun K hK=>?_) ?_
 ·go_simp;refine hK _ _ ?_;clear hK K;refine rF [7,12] ?_;refine AllReady.cons rfl (fun K hK=>?_) ?_
  ·go_simp;refine hK _ _ ?_;clear hK K;refine tF 8 ?_ rfl ?_ (tF 9 ?_ rfl ?_ ?_);all_goals (try (
    intro w;go_simp<;>(try with_reducible rfl)))
   refine rF [10,12] ?_;refine AllReady.cons rfl (fun K hK=>?_) ?_
   ·go_simp;refine hK _ _ ?_;clear hK K;refine rF [11,12] ?_;refine AllReady.cons rfl (fun K hK=>?_) ?_
    ·go_simp;refine hK _ _ ?_;clear hK K;refine oF 12 rfl fun K hK=>?_
     go_simp;refine hK _ _ ?_;clear hK K;refine oF 13 rfl fun K hK=>?_
     go_simp;refine hK _ _ ?_;clear hK K;refine dF ?_;go_wp2;refine rT 14 ?_;simp only[sD,sE,sF,sG];repeat still_step
     refine wpStill_nil ?_;go_wp2;refine bodyPost_ret (v:=.agg #[.int .i64 p0,.int .i64 p1,.int .u64 r0,.int .u64 r1,.int .u64 r2,.int .u64 r3,.int .u64 r4,.int .u64 r5,.int .u64 r6,.int .u64 r7,.int .i64 p3]) (by simp[results,Tryz.results252,go_sem]) rfl ⟨rfl,?_⟩
     exact(((((HFI.o w emp HB.o.emp_).perm (emp_star _)).junk _).junk _).drew).drew
    refine nF rfl fun K hK=>?_
    ·go_simp;refine hK _ _ ?_;clear hK K;refine oF 11 rfl fun K hK=>?_
     go_simp;refine hK _ _ ?_;clear hK K;refine oF 13 rfl fun K hK=>?_
     go_simp;refine hK _ _ ?_;clear hK K;refine dF ?_;go_wp2;refine rT 14 ?_;simp only[sD,sE,sF,sG];repeat still_step
     refine wpStill_nil ?_;go_wp2;refine bodyPost_ret (v:=.agg #[.int .i64 p0,.int .i64 p1,.int .u64 r0,.int .u64 r1,.int .u64 r2,.int .u64 r3,.int .u64 r4,.int .u64 r5,.int .u64 r6,.int .u64 r7,.int .i64 p3]) (by simp[results,Tryz.results252,go_sem]) rfl ⟨rfl,?_⟩
     exact(((((HFI.o w emp HB.o.emp_).perm (emp_star _)).junk _).junk _).drew).drew
   refine nF rfl fun K hK=>?_
   ·go_simp;refine hK _ _ ?_;clear hK K;refine oF 10 rfl fun K hK=>?_
    go_simp;refine hK _ _ ?_;clear hK K;refine oF 11 rfl fun K hK=>?_
    go_simp;refine hK _ _ ?_;clear hK K;refine oF 13 rfl fun K hK=>?_
    go_simp;refine hK _ _ ?_;clear hK K;refine dF ?_;go_wp2;refine rT 14 ?_;simp only[sD,sE,sF,sG];repeat still_step
    refine wpStill_nil ?_;go_wp2;refine bodyPost_ret (v:=.agg #[.int .i64 p0,.int .i64 p1,.int .u64 r0,.int .u64 r1,.int .u64 r2,.int .u64 r3,.int .u64 r4,.int .u64 r5,.int .u64 r6,.int .u64 r7,.int .i64 p3]) (by simp[results,Tryz.results252,go_sem]) rfl ⟨rfl,?_⟩
    exact(((((HFI.o w emp HB.o.emp_).perm (emp_star _)).junk _).junk _).drew).drew
  refine nF rfl fun K hK=>?_
  ·go_simp;refine hK _ _ ?_;clear hK K;refine oF 7 rfl fun K hK=>?_
   go_simp;refine hK _ _ ?_;clear hK K;refine tF 8 ?_ rfl ?_ (tF 9 ?_ rfl ?_ ?_);all_goals (try (
    intro w;go_simp<;>(try with_reducible rfl)))
   refine oF 10 rfl fun K hK=>?_
   go_simp;refine hK _ _ ?_;clear hK K;refine oF 11 rfl fun K hK=>?_
   go_simp;refine hK _ _ ?_;clear hK K;refine oF 13 rfl fun K hK=>?_
   go_simp;refine hK _ _ ?_;clear hK K;refine dF ?_;go_wp2;refine rT 14 ?_;simp only[sD,sE,sF,sG];repeat still_step
   refine wpStill_nil ?_;go_wp2;refine bodyPost_ret (v:=.agg #[.int .i64 p0,.int .i64 p1,.int .u64 r0,.int .u64 r1,.int .u64 r2,.int .u64 r3,.int .u64 r4,.int .u64 r5,.int .u64 r6,.int .u64 r7,.int .i64 p3]) (by simp[results,Tryz.results252,go_sem]) rfl ⟨rfl,?_⟩
   exact(((((HFI.o w emp HB.o.emp_).perm (emp_star _)).junk _).junk _).drew).drew
 refine AllReady.cons rfl (fun K hK=>?_) ?_
 ·go_simp;refine hK _ _ ?_;clear hK K;refine tF 8 ?_ rfl ?_ (tF 9 ?_ rfl ?_ ?_);all_goals (try (
   intro w;go_simp<;>(try with_reducible rfl)))
  refine rF [3,12] ?_;refine AllReady.cons rfl (fun K hK=>?_) ?_
  ·go_simp;refine hK _ _ ?_;clear hK K;refine rF [10,12] ?_;refine AllReady.cons rfl (fun K hK=>?_) ?_
   ·go_simp;refine hK _ _ ?_;clear hK K;refine rF [11,12] ?_;refine AllReady.cons rfl (fun K hK=>?_) ?_
    ·go_simp;refine hK _ _ ?_;clear hK K;refine oF 12 rfl fun K hK=>?_
     go_simp;refine hK _ _ ?_;clear hK K;refine oF 13 rfl fun K hK=>?_
     go_simp;refine hK _ _ ?_;clear hK K;refine dF ?_;go_wp2;refine rT 14 ?_;simp only[sD,sE,sF,sG];repeat still_step
     refine wpStill_nil ?_;go_wp2;refine bodyPost_ret (v:=.agg #[.int .i64 p0,.int .i64 p1,.int .u64 r0,.int .u64 r1,.int .u64 r2,.int .u64 r3,.int .u64 r4,.int .u64 r5,.int .u64 r6,.int .u64 r7,.int .i64 p3]) (by simp[results,Tryz.results252,go_sem]) rfl ⟨rfl,?_⟩
     exact(((((HFI.o w emp HB.o.emp_).perm (emp_star _)).junk _).junk _).drew).drew
    refine nF rfl fun K hK=>?_
    ·go_simp;refine hK _ _ ?_;clear hK K;refine oF 11 rfl fun K hK=>?_
     go_simp;refine hK _ _ ?_;clear hK K;refine oF 13 rfl fun K hK=>?_
     go_simp;refine hK _ _ ?_;clear hK K;refine dF ?_;go_wp2;refine rT 14 ?_;simp only[sD,sE,sF,sG];repeat still_step
     refine wpStill_nil ?_;go_wp2;refine bodyPost_ret (v:=.agg #[.int .i64 p0,.int .i64 p1,.int .u64 r0,.int .u64 r1,.int .u64 r2,.int .u64 r3,.int .u64 r4,.int .u64 r5,.int .u64 r6,.int .u64 r7,.int .i64 p3]) (by simp[results,Tryz.results252,go_sem]) rfl ⟨rfl,?_⟩
     exact(((((HFI.o w emp HB.o.emp_).perm (emp_star _)).junk _).junk _).drew).drew
   refine nF rfl fun K hK=>?_
   ·go_simp;refine hK _ _ ?_;clear hK K;refine oF 10 rfl fun K hK=>?_
    go_simp;refine hK _ _ ?_;clear hK K;refine oF 11 rfl fun K hK=>?_
    go_simp;refine hK _ _ ?_;clear hK K;refine oF 13 rfl fun K hK=>?_
    go_simp;refine hK _ _ ?_;clear hK K;refine dF ?_;go_wp2;refine rT 14 ?_;simp only[sD,sE,sF,sG];repeat still_step
    refine wpStill_nil ?_;go_wp2;refine bodyPost_ret (v:=.agg #[.int .i64 p0,.int .i64 p1,.int .u64 r0,.int .u64 r1,.int .u64 r2,.int .u64 r3,.int .u64 r4,.int .u64 r5,.int .u64 r6,.int .u64 r7,.int .i64 p3]) (by simp[results,Tryz.results252,go_sem]) rfl ⟨rfl,?_⟩
    exact(((((HFI.o w emp HB.o.emp_).perm (emp_star _)).junk _).junk _).drew).drew
  refine nF rfl fun K hK=>?_
  ·go_simp;refine hK _ _ ?_;clear hK K;refine oF 3 rfl fun K hK=>?_
   go_simp;refine hK _ _ ?_;clear hK K;refine oF 10 rfl fun K hK=>?_
   go_simp;refine hK _ _ ?_;clear hK K;refine oF 11 rfl fun K hK=>?_
   go_simp;refine hK _ _ ?_;clear hK K;refine oF 13 rfl fun K hK=>?_
   go_simp;refine hK _ _ ?_;clear hK K;refine dF ?_;go_wp2;refine rT 14 ?_;simp only[sD,sE,sF,sG];repeat still_step
   refine wpStill_nil ?_;go_wp2;refine bodyPost_ret (v:=.agg #[.int .i64 p0,.int .i64 p1,.int .u64 r0,.int .u64 r1,.int .u64 r2,.int .u64 r3,.int .u64 r4,.int .u64 r5,.int .u64 r6,.int .u64 r7,.int .i64 p3]) (by simp[results,Tryz.results252,go_sem]) rfl ⟨rfl,?_⟩
   exact(((((HFI.o w emp HB.o.emp_).perm (emp_star _)).junk _).junk _).drew).drew
 refine nF rfl fun K hK=>?_
 ·go_simp;refine hK _ _ ?_;clear hK K;refine rF [3,7] ?_;refine AllReady.cons rfl (fun K hK=>?_) ?_
  ·go_simp;refine hK _ _ ?_;clear hK K;refine oF 7 rfl fun K hK=>?_
   go_simp;refine hK _ _ ?_;clear hK K;refine tF 8 ?_ rfl ?_ (tF 9 ?_ rfl ?_ ?_);all_goals (try (
    intro w;go_simp<;>(try with_reducible rfl)))
   refine oF 10 rfl fun K hK=>?_
   go_simp;refine hK _ _ ?_;clear hK K;refine oF 11 rfl fun K hK=>?_
   go_simp;refine hK _ _ ?_;clear hK K;refine oF 13 rfl fun K hK=>?_
   go_simp;refine hK _ _ ?_;clear hK K;refine dF ?_;go_wp2;refine rT 14 ?_;simp only[sD,sE,sF,sG];repeat still_step
   refine wpStill_nil ?_;go_wp2;refine bodyPost_ret (v:=.agg #[.int .i64 p0,.int .i64 p1,.int .u64 r0,.int .u64 r1,.int .u64 r2,.int .u64 r3,.int .u64 r4,.int .u64 r5,.int .u64 r6,.int .u64 r7,.int .i64 p3]) (by simp[results,Tryz.results252,go_sem]) rfl ⟨rfl,?_⟩
   exact(((((HFI.o w emp HB.o.emp_).perm (emp_star _)).junk _).junk _).drew).drew
  refine nF rfl fun K hK=>?_
  ·go_simp;refine hK _ _ ?_;clear hK K;refine tF 8 ?_ rfl ?_ (tF 9 ?_ rfl ?_ ?_);all_goals (try (
    intro w;go_simp<;>(try with_reducible rfl)))
   refine oF 3 rfl fun K hK=>?_
   go_simp;refine hK _ _ ?_;clear hK K;refine oF 10 rfl fun K hK=>?_
   go_simp;refine hK _ _ ?_;clear hK K;refine oF 11 rfl fun K hK=>?_
   go_simp;refine hK _ _ ?_;clear hK K;refine oF 13 rfl fun K hK=>?_
   go_simp;refine hK _ _ ?_;clear hK K;refine dF ?_;go_wp2;refine rT 14 ?_;simp only[sD,sE,sF,sG];repeat still_step
   refine wpStill_nil ?_;go_wp2;refine bodyPost_ret (v:=.agg #[.int .i64 p0,.int .i64 p1,.int .u64 r0,.int .u64 r1,.int .u64 r2,.int .u64 r3,.int .u64 r4,.int .u64 r5,.int .u64 r6,.int .u64 r7,.int .i64 p3]) (by simp[results,Tryz.results252,go_sem]) rfl ⟨rfl,?_⟩
   exact(((((HFI.o w emp HB.o.emp_).perm (emp_star _)).junk _).junk _).drew).drew
end Go.Proofs.YtfodmgaliclhfaaGreatDoor
