/- Lemmas for TopPairs; no conditions. -/
import Derived.Test.YtfodmgaliclhfaaGreatDoorGAtFetched
namespace Go.Proofs.YtfodmgaliclhfaaGreatDoor
set_option linter.unusedVariables false
set_option linter.unusedSimpArgs false
set_option maxRecDepth 100000
set_option maxHeartbeats 4000000
open Go.RowKit
section
variable (ω w : World) (F : HP)
theorem atC_stamp (s:PSt)(x:PAt)(D:AtD)(v:Nat):(atC s x D).setIfInBounds 21 (.int .u64 v)=atC s { x with stamp:=v } D:=rfl
theorem at_blkE {ω w:World}{F:HP}{b:Nat}{s:PSt}{x:PAt}{D:AtD}{e:PEx}(h:Sat ω w (atX b s x D*F))(hi:x.inner=.extend e):∃g A c,D.inn=.iface 195 (.pointer (some ⟨g,0,none⟩))∧D.ep=.pointer (some ⟨g,0,none⟩)∧Blk w g 285 (exC e A c):=by
 obtain⟨G,j1,_⟩:=at_inner h;rw[hi] at j1;obtain⟨g,e1,e2,j3,_⟩:=inH_ex j1;obtain⟨A,c,j4⟩:=extH_of j3;exact⟨g,A,c,e1,e2,j4.assoc.blk⟩
theorem at_ended3 (b:Nat)(s:PSt)(x:PAt)(h:Sat ω w (atH b s x*F))(hk:x.state=3)(f:PFe)(hi:x.inner=.fetch f)(dep:Nat→Nat)(hf:ItFine dep x.run x.v)(hfin:x.run.fin=0∨x.run.fin=2∨x.run.fin=4)(hr:x.reads.length≤16)(hs:s.fit)(hu:U64 f.word):
  Calls Tryz.prog 135 #[.pointer (some ⟨b,0,none⟩)] w (Rets ω F (.tuple #[]) (atH b s (x.ended s))):=by
 have hW:x.ended s=x.fetched s f:=by unfold PAt.ended;rw[hi]
 rw[hW];have HF:=h_ (at_fetched ω w F b s x h f hi dep hf hfin hr hs hu);obtain⟨D,hx⟩:=atH_of h;have hb:=atX_blk hx;have c14:w.cell? ⟨b,14,none⟩=some (.int .i64 3):=by have:=hb.cell 14;rw[this];show some (Value.int .i64 x.state)=_;rw[hk];rfl
 have lt:=hb.lt;clear h hx hb hk hi hf hfin hr hs hu hW;go_enter Tryz.func135,Tryz.ntmps135;go_wp2_with (go_at_call 165;refine(HF.o).mono ?_;rintro e w1 ⟨rfl,hs⟩;have HZ:=h_ hs;clear hs);exact bodyPost_end (results_none rfl _ _ _) rfl ⟨rfl,HZ.o⟩
theorem at_ended4 (b:Nat)(s:PSt)(x:PAt)(h:Sat ω w (atH b s x*F))(hk:x.state=4)(e:PEx)(hi:x.inner=.extend e)(hs:s.fit)(hn:x.v.need≤1000000):
  Calls Tryz.prog 135 #[.pointer (some ⟨b,0,none⟩)] w (Rets ω F (.tuple #[]) (atH b s (x.ended s))):=by
 obtain⟨sp,hsp⟩:∃sp,(if e.rule.fin=2 then e.stamp else 0)=sp:=⟨_,rfl⟩
 have hW:x.ended s=PAt.ask { x with stamp:=sp } s x.v.need:=by unfold PAt.ended;rw[hi];simp only[hsp];rw[if_pos hk]
 rw[hW];obtain⟨D,hx⟩:=atH_of h;have hb:=atX_blk hx;obtain⟨g,A,c,e1,e2,hg⟩:=at_blkE hx hi;have c14:w.cell? ⟨b,14,none⟩=some (.int .i64 4):=by have:=hb.cell 14;rw[this];show some (Value.int .i64 x.state)=_;rw[hk];rfl
 have c17:w.cell? ⟨b,17,none⟩=some (.pointer (some ⟨g,0,none⟩)):=by have:=hb.cell 17;rw[this];show some D.ep=_;rw[e2]
 have c21:=hb.c 21;have c12:w.cell? ⟨b,12,none⟩=some (.pointer (some ⟨D.vb,0,none⟩)):=hb.cell 12;have lt:=hb.lt;have fz:=hb.frozen;have HST:Hid (Calls Tryz.prog 166 #[.pointer (some ⟨g,0,none⟩)] w fun e w'=>e=.returned (.int .u64 sp)∧w'=w):=h_ (hsp▸ex_stampOf w g e A c hg)
 have HS:Hid (Sat ω (w.setCell ⟨b,21,none⟩ (.int .u64 sp)) (atH b s { x with stamp:=sp }*F)):=h_ (at_put1 h 21 _ (fun D=>atC_stamp s x D sp) rfl rfl rfl rfl)
 have HN:Hid (Calls Tryz.prog 130 #[.pointer (some ⟨D.vb,0,none⟩)] (w.setCell ⟨b,21,none⟩ (.int .u64 sp)) fun e w'=>e=.returned (.int .i64 x.v.need)∧w'=(w.setCell ⟨b,21,none⟩ (.int .u64 sp))):=h_ (by
  have h9:Sat ω (w.setCell ⟨b,21,none⟩ (.int .u64 sp)) (atX b s { x with stamp:=sp } D*F):=by
   unfold atX at hx ⊢;exact(hx.assoc.put 21 _ (atC_stamp s x D sp)).assoc'
  obtain⟨G,h2,_⟩:=at_vw h9;exact vw_need ω _ G D.vb x.v h2)
 have HA:Hid (Calls Tryz.prog 129 #[.pointer (some ⟨b,0,none⟩),.int .i64 x.v.need] (w.setCell ⟨b,21,none⟩ (.int .u64 sp)) (Rets ω F (.tuple #[]) (atH b s (PAt.ask { x with stamp:=sp } s x.v.need)))):=h_ (at_ask ω _ F b s { x with stamp:=sp } HS.o x.v.need hn (by rw[show({ x with stamp:=sp }:PAt).inner=x.inner from rfl,hi];simp) hs.s1 hs.s2 hs.w1 hs.w2)
 generalize PAt.ask { x with stamp:=sp } s x.v.need=Z at *
 generalize x.v.need=need at *
 generalize x.stamp=stamp at *
 generalize D.vb=vb at *
 clear h hx hb hk hi hs hn hW HS hg e1 e2 hsp;go_enter Tryz.func135,Tryz.ntmps135;go_wp2_with (first
  |(go_at_call 166;refine(HST.o).mono ?_;rintro e w1 ⟨rfl,rfl⟩)
  |(go_at_call 130;refine(HN.o).mono ?_;rintro e w1 ⟨rfl,rfl⟩)
  |(go_at_call 129;refine(HA.o).mono ?_;rintro e w1 ⟨rfl,hs⟩;have HZ:=h_ hs;clear hs))
 exact bodyPost_end (results_none rfl _ _ _) rfl ⟨rfl,HZ.o⟩
theorem at_ended5 (b:Nat)(s:PSt)(x:PAt)(h:Sat ω w (atH b s x*F))(hk:x.state=5)(e:PEx)(hi:x.inner=.extend e):
  Calls Tryz.prog 135 #[.pointer (some ⟨b,0,none⟩)] w (Rets ω F (.tuple #[]) (atH b s (x.ended s))):=by
 obtain⟨sp,hsp⟩:∃sp,(if e.rule.fin=2 then e.stamp else 0)=sp:=⟨_,rfl⟩
 have hW:x.ended s=PAt.out { x with stamp:=sp } 3 0 (-1):=by unfold PAt.ended;rw[hi];simp only[hsp];rw[if_neg (by omega)]
 rw[hW];obtain⟨D,hx⟩:=atH_of h;have hb:=atX_blk hx;obtain⟨g,A,c,e1,e2,hg⟩:=at_blkE hx hi;have c14:w.cell? ⟨b,14,none⟩=some (.int .i64 5):=by have:=hb.cell 14;rw[this];show some (Value.int .i64 x.state)=_;rw[hk];rfl
 have c17:w.cell? ⟨b,17,none⟩=some (.pointer (some ⟨g,0,none⟩)):=by have:=hb.cell 17;rw[this];show some D.ep=_;rw[e2]
 have c21:=hb.c 21;have lt:=hb.lt;have fz:=hb.frozen;have HST:Hid (Calls Tryz.prog 166 #[.pointer (some ⟨g,0,none⟩)] w fun e w'=>e=.returned (.int .u64 sp)∧w'=w):=h_ (hsp▸ex_stampOf w g e A c hg)
 have HS:Hid (Sat ω (w.setCell ⟨b,21,none⟩ (.int .u64 sp)) (atH b s { x with stamp:=sp }*F)):=h_ (at_put1 h 21 _ (fun D=>atC_stamp s x D sp) rfl rfl rfl rfl)
 have HA:Hid (Calls Tryz.prog 92 #[.pointer (some ⟨b,0,none⟩),.int .i64 3,.int .i64 0,.int .i64 (-1)] (w.setCell ⟨b,21,none⟩ (.int .u64 sp)) (Rets ω F (.tuple #[]) (atH b s (PAt.out { x with stamp:=sp } 3 0 (-1))))):=h_ (at_out ω _ F b s { x with stamp:=sp } HS.o 3 0 (-1))
 generalize PAt.out { x with stamp:=sp } 3 0 (-1)=Z at *
 generalize x.stamp=stamp at *
 clear h hx hb hk hi hW HS hg e1 e2 hsp;go_enter Tryz.func135,Tryz.ntmps135;go_wp2_with (first
  |(go_at_call 166;refine(HST.o).mono ?_;rintro e w1 ⟨rfl,rfl⟩)
  |(go_at_call 92;refine(HA.o).mono ?_;rintro e w1 ⟨rfl,hs⟩;have HZ:=h_ hs;clear hs))
 exact bodyPost_end (results_none rfl _ _ _) rfl ⟨rfl,HZ.o⟩
theorem at_outD (b:Nat)(s:PSt)(x:PAt)(D:AtD)(hx:Sat ω w (atX b s x D*F))(f e:Nat)(by_:Int):
  Calls Tryz.prog 92 #[.pointer (some ⟨b,0,none⟩),.int .i64 f,.int .i64 e,.int .i64 by_] w (Rets ω F (.tuple #[]) (atX b s (x.out f e by_) D)):=by
 have hb:=atX_blk hx;have lt:=hb.lt;have fz:=hb.frozen;have c1:=hb.c 22;have c2:=hb.c 24;have c3:=hb.c 23;have c4:=hb.c 14;have HS:Hid (Sat ω ((((w.setCell ⟨b,22,none⟩ (.int .i64 f)).setCell ⟨b,24,none⟩ (.int .i64 e)).setCell ⟨b,23,none⟩ (.int .i64 by_)).setCell ⟨b,14,none⟩ (.int .i64 7)) (atX b s (x.out f e by_) D*F)):=h_ (by
  unfold atX at hx;exact((((hx.assoc.set 22 _).set 24 _).set 23 _).put 14 _ (atC_out s x D f e by_)).assoc')
 generalize (x.fin:Int)=k1 at *
 generalize (x.err:Int)=k2 at *
 generalize x.by_=k3 at *
 generalize (x.state:Int)=k4 at *
 clear hx hb;go_enter Tryz.func92,Tryz.ntmps92;go_wp2;exact bodyPost_end (results_none rfl _ _ _) rfl ⟨rfl,HS.o⟩
def CoS (b:Nat)(g:Nat)(w:World):Prop:=w.cell? ⟨b,18,none⟩=some (.pointer (some ⟨g,0,none⟩))∧b<w.heap.size
theorem at_ended6 (b:Nat)(s:PSt)(x:PAt)(h:Sat ω w (atH b s x*F))(hk:x.state=6)(c:PCo)(hi:x.inner=.commit c):
  Calls Tryz.prog 135 #[.pointer (some ⟨b,0,none⟩)] w (Rets ω F (.tuple #[]) (atH b s (x.ended s))):=by
 have hW:x.ended s=x.out c.rule.fin c.rule.err (-1):=by unfold PAt.ended;rw[hi]
 rw[hW];obtain⟨D,hx⟩:=atH_of h;have hb:=atX_blk hx;obtain⟨G,j1,_⟩:=at_inner hx;rw[hi] at j1;obtain⟨g,e1,e2,j3,_⟩:=inH_co j1;obtain⟨CD,hg⟩:=coH_of j3;have c14:w.cell? ⟨b,14,none⟩=some (.int .i64 6):=by have:=hb.cell 14;rw[this];show some (Value.int .i64 x.state)=_;rw[hk];rfl
 have c18:w.cell? ⟨b,18,none⟩=some (.pointer (some ⟨g,0,none⟩)):=by have:=hb.cell 18;rw[this];show some D.cp=_;rw[e2]
 have lt:=hb.lt;have HS0:CoS b g w.drew:=⟨c18,lt⟩;have HE:Hid (∀q,Calls Tryz.prog 145 #[.pointer (some ⟨g,0,none⟩)] (w.drewN q) fun e w'=>e=.returned (.int .i64 c.rule.fin)∧w'=w.drewN q):=h_ (fun q=>co_endOf _ g c CD hg)
 have HR:Hid (∀q,Calls Tryz.prog 167 #[.pointer (some ⟨g,0,none⟩)] (w.drewN q) fun e w'=>e=.returned (.int .i64 c.rule.err)∧w'=w.drewN q):=h_ (fun q=>co_errOf _ g c CD hg)
 have HO:Hid (∀q,Calls Tryz.prog 92 #[.pointer (some ⟨b,0,none⟩),.int .i64 c.rule.fin,.int .i64 c.rule.err,.int .i64 (-1)] (w.drewN q) fun e w'=>(e=.returned (.tuple #[])∧Sat ω w' (atH b s (x.out c.rule.fin c.rule.err (-1))*F))∧CoS b g w'):=h_ (fun q=>by
  refine(at_outD ω _ F b s x D (hx.drewN q) c.rule.fin c.rule.err (-1)).mono ?_;rintro e w1 ⟨rfl,h9⟩;refine⟨⟨rfl,atH_to h9⟩,?_⟩;have hb9:=atX_blk h9;refine⟨?_,hb9.lt⟩
  have:=hb9.cell 18
  rw[this];show some D.cp=_
  rw[e2])
 generalize x.out c.rule.fin c.rule.err (-1)=Z at *
 generalize c.rule.fin=cf at *
 generalize c.rule.err=ce at *
 clear h hx hb hk hi hW j1 j3 hg e1 e2;go_enter Tryz.func135,Tryz.ntmps135;go_wp2;refine wp_region_noPanic ?_;refine gH (CoS b g) HS0 fun hh0=>?_
 refine tH 0 ?_ rfl ?_ (tH 1 ?_ rfl ?_ (tH 2 ?_ rfl ?_ (tH 3 ?_ rfl ?_ (tH 4 ?_ rfl ?_ (tH 6 ?_ rfl ?_ (tH 7 ?_ rfl ?_ (tH 8 ?_ rfl ?_ (tH 9 ?_ rfl ?_ ?_))))))));all_goals (try (
  intro w hSw;have d18:=hSw.1;have dl:=hSw.2;try simp only[Act.put,sA,sB,sC]
  go_simp<;>(try with_reducible rfl)))
 try simp only[Act.put,sA,sB,sC]
 refine oH 5 rfl fun K hK=>?_
 go_simp;go_at_call 145;refine(HE.o _).mono ?_;rintro e wA ⟨rfl,rfl⟩;first|(refine hK.q ?_ fun hh1=>?_)|(go_wp2_with fail;refine hK.q ?_ fun hh1=>?_)
 ·exact HS0
 clear hK K hh0;try simp only[Act.put,sA,sB,sC]
 refine oH 10 rfl fun K hK=>?_
 go_simp;go_at_call 167;refine(HR.o _).mono ?_;rintro e wA ⟨rfl,rfl⟩;first|(refine hK.q ?_ fun hh2=>?_)|(go_wp2_with fail;refine hK.q ?_ fun hh2=>?_)
 ·exact HS0
 clear hK K hh1;try simp only[Act.put,sA,sB,sC]
 refine oH 11 rfl fun K hK=>?_
 go_simp;go_at_call 92;refine(HO.o _).mono ?_;rintro e wA ⟨⟨rfl,hs⟩,hq⟩;have HZ:=h_ hs;clear hs;first|(refine hK.q ?_ fun hh3=>?_)|(go_wp2_with fail;refine hK.q ?_ fun hh3=>?_)
 ·exact hq
 clear hK K hh2;try simp only[Act.put,sA,sB,sC]
 refine dH (NoPanic.normal ?_);go_wp2;exact bodyPost_end (results_none rfl _ _ _) rfl ⟨rfl,HZ.o⟩
end
section
variable (ω w : World) (F : HP)
def stampT (y:PAt):PAt:=if y.writing then { y with stamp:=match y.inner with | .commit c=>c.stampOf|_=>0 } else y
theorem told_eq (x:PAt)(s:PSt):x.told s=stampT (if x.inner.rule.fin=0 then x else if x.inner.rule.fin=5 then x.out 5 0 x.inner.rule.by_ else x.ended s):=rfl
structure ToT (ω w:World) (F:HP) (b:Nat) (s:PSt) (y:PAt) (g:Nat) (sp:Nat):Prop where
 c18:w.cell? ⟨b,18,none⟩=some (.pointer (some ⟨g,0,none⟩))
 c21:∃u,w.cell? ⟨b,21,none⟩=some u
 fz:w.frozen? ⟨b,21,none⟩=false
 lt:b<w.heap.size
 st:Calls Tryz.prog 136 #[.pointer (some ⟨g,0,none⟩)] w fun e w'=>e=.returned (.int .u64 sp)∧w'=w
 sat:Sat ω (w.setCell ⟨b,21,none⟩ (.int .u64 sp)) (atH b s (stampT y)*F)
theorem toT_of {ω w:World}{F:HP}{b:Nat}{s:PSt}{y:PAt}(h:Sat ω w (atH b s y*F))(hw:y.writing=true)(hn:∀c,y.inner=.commit c→c.now≤4611686018427387904):∃g sp,ToT ω w F b s y g sp:=by
 obtain⟨D,hx⟩:=atH_of h;rcases at_co hx with⟨c,cb,CD,hi,hcp,hcb⟩|⟨hno,_⟩
 ·have hb:=atX_blk hx;refine⟨cb,c.stampOf,?_,⟨_,hb.cell 21⟩,hb.frozen 21,hb.lt,co_stampOf w cb c CD hcb (hn c hi),?_⟩
  ·have:=hb.cell 18
   rw[this];show some D.cp=_
   rw[hcp];rfl
  ·have e:stampT y={ y with stamp:=c.stampOf }:=by unfold stampT;rw[if_pos hw,hi]
   rw[e];exact at_put1 h 21 _ (fun D=>atC_stamp s y D c.stampOf) rfl rfl rfl rfl
 ·rw[writing_no hno] at hw;cases hw
theorem at_toldfe0 (b:Nat)(s:PSt)(x:PAt)(h:Sat ω w (atH b s x*F))(f:PFe)(hi:x.inner=.fetch f)(hf:f.rule.fin=0)(hn:∀c,(x.told s).inner=.commit c→c.now≤4611686018427387904):
  Calls Tryz.prog 94 #[.pointer (some ⟨b,0,none⟩)] w (Rets ω F (.tuple #[]) (atH b s (x.told s))):=by
 have hT:x.told s=stampT x:=by
  rw[told_eq,hi];show stampT (if f.rule.fin=0 then x else if f.rule.fin=5 then x.out 5 0 f.rule.by_ else x.ended s)=_
  rw[if_pos hf]
 have hi2:(stampT x).inner=(x:PAt).inner:=by unfold stampT;split<;>rfl
 rw[hT] at hn ⊢;rw[hi2] at hn;obtain⟨D,hx⟩:=atH_of h;have hb:=atX_blk hx;obtain⟨G,j1,_⟩:=at_inner hx;rw[hi] at j1;obtain⟨g,e1,e2,j3,_⟩:=inH_fe j1;have hg:=j3.blk;have c15:w.cell? ⟨b,15,none⟩=some (.iface 194 (.pointer (some ⟨g,0,none⟩))):=by have:=hb.cell 15;rw[this];show some D.inn=_;rw[e1]
 have lt:=hb.lt;have HE:=h_ (fe_endOf w g f hg);have HB:=h_ (fe_byOf w g f hg);have HY:Hid (Sat ω w (atH b s x*F)):=h_ h;rw[hf] at HE;have q1:True:=trivial;obtain⟨y,hy⟩:∃y,x=y:=⟨_,rfl⟩;rw[hy] at hn HY ⊢;have HW:Hid (∀w1,Sat ω w1 (atH b s y*F)→Calls Tryz.prog 108 #[.pointer (some ⟨b,0,none⟩)] w1 fun e w'=>e=.returned (.bool y.writing)∧w'=w1):=h_ (fun w1 h1=>at_writing ω w1 F b s y h1)
 have hm:=me_feEnd;have hm2:=me_feBy;cases hwr:y.writing
 ·have hst:stampT y=y:=by unfold stampT;rw[if_neg (by simp[hwr])]
  rw[hst];rw[hwr] at HW;generalize f.rule.fin=ff at *
  generalize f.rule.by_=fb at *
  clear h hx hb j1 j3 hg e1 e2 hi hT hi2 hy hf hwr hst hn;go_enter Tryz.func94,Tryz.ntmps94;go_wp2_with (first
   |(go_at_call 194;refine(HE.o).mono ?_;rintro e w1 ⟨rfl,rfl⟩)
   |(go_at_call 108;refine(HW.o _ HY.o).mono ?_;rintro e w2 ⟨rfl,rfl⟩))
  exact bodyPost_end (results_none rfl _ _ _) rfl ⟨rfl,HY.o⟩
 ·have HTT:Hid (∀w1,Sat ω w1 (atH b s y*F)→∃g sp,ToT ω w1 F b s y g sp):=h_ (fun w1 h1=>toT_of h1 hwr hn)
  rw[hwr] at HW;generalize f.rule.fin=ff at *
  generalize f.rule.by_=fb at *
  clear h hx hb j1 j3 hg e1 e2 hi hT hi2 hy hf hwr hn;go_enter Tryz.func94,Tryz.ntmps94;go_wp2_with (first
   |(go_at_call 194;refine(HE.o).mono ?_;rintro e w1 ⟨rfl,rfl⟩)
   |(go_at_call 108;refine(HW.o _ HY.o).mono ?_;rintro e w2 ⟨rfl,rfl⟩;obtain⟨g9,sp,z1,⟨u9,z2⟩,z3,z4,z5,z6⟩:=HTT.o _ HY.o;have Z5:=h_ z5;have Z6:=h_ z6;clear z5 z6)
   |(go_at_call 136;refine(Z5.out).mono ?_;rintro e w3 ⟨rfl,rfl⟩))
  exact bodyPost_end (results_none rfl _ _ _) rfl ⟨rfl,Z6.out⟩
theorem at_toldfe5 (b:Nat)(s:PSt)(x:PAt)(h:Sat ω w (atH b s x*F))(f:PFe)(hi:x.inner=.fetch f)(hf:f.rule.fin=5)(hn:∀c,(x.told s).inner=.commit c→c.now≤4611686018427387904):
  Calls Tryz.prog 94 #[.pointer (some ⟨b,0,none⟩)] w (Rets ω F (.tuple #[]) (atH b s (x.told s))):=by
 have hT:x.told s=stampT (x.out 5 0 f.rule.by_):=by
  rw[told_eq,hi];show stampT (if f.rule.fin=0 then x else if f.rule.fin=5 then x.out 5 0 f.rule.by_ else x.ended s)=_
  rw[if_neg (by omega),if_pos hf]
 have hi2:(stampT (x.out 5 0 f.rule.by_)).inner=((x.out 5 0 f.rule.by_):PAt).inner:=by unfold stampT;split<;>rfl
 rw[hT] at hn ⊢;rw[hi2] at hn;obtain⟨D,hx⟩:=atH_of h;have hb:=atX_blk hx;obtain⟨G,j1,_⟩:=at_inner hx;rw[hi] at j1;obtain⟨g,e1,e2,j3,_⟩:=inH_fe j1;have hg:=j3.blk;have c15:w.cell? ⟨b,15,none⟩=some (.iface 194 (.pointer (some ⟨g,0,none⟩))):=by have:=hb.cell 15;rw[this];show some D.inn=_;rw[e1]
 have lt:=hb.lt;have HE:=h_ (fe_endOf w g f hg);have HB:=h_ (fe_byOf w g f hg);have HO:=h_ (at_out ω w F b s x h 5 0 f.rule.by_);rw[hf] at HE;obtain⟨y,hy⟩:∃y,(x.out 5 0 f.rule.by_)=y:=⟨_,rfl⟩;rw[hy] at hn HO ⊢;have HW:Hid (∀w1,Sat ω w1 (atH b s y*F)→Calls Tryz.prog 108 #[.pointer (some ⟨b,0,none⟩)] w1 fun e w'=>e=.returned (.bool y.writing)∧w'=w1):=h_ (fun w1 h1=>at_writing ω w1 F b s y h1)
 have hm:=me_feEnd;have hm2:=me_feBy;cases hwr:y.writing
 ·have hst:stampT y=y:=by unfold stampT;rw[if_neg (by simp[hwr])]
  rw[hst];rw[hwr] at HW;generalize f.rule.fin=ff at *
  generalize f.rule.by_=fb at *
  clear h hx hb j1 j3 hg e1 e2 hi hT hi2 hy hf hwr hst hn;go_enter Tryz.func94,Tryz.ntmps94;go_wp2_with (first
   |(go_at_call 194;refine(HE.o).mono ?_;rintro e w1 ⟨rfl,rfl⟩)
   |(go_at_call 387;refine(HB.o).mono ?_;rintro e w1 ⟨rfl,rfl⟩)
   |(go_at_call 92;refine(HO.o).mono ?_;rintro e w1 ⟨rfl,hs⟩;have HY:=h_ hs;clear hs)
   |(go_at_call 108;refine(HW.o _ HY.o).mono ?_;rintro e w2 ⟨rfl,rfl⟩))
  exact bodyPost_end (results_none rfl _ _ _) rfl ⟨rfl,HY.o⟩
 ·have HTT:Hid (∀w1,Sat ω w1 (atH b s y*F)→∃g sp,ToT ω w1 F b s y g sp):=h_ (fun w1 h1=>toT_of h1 hwr hn)
  rw[hwr] at HW;generalize f.rule.fin=ff at *
  generalize f.rule.by_=fb at *
  clear h hx hb j1 j3 hg e1 e2 hi hT hi2 hy hf hwr hn;go_enter Tryz.func94,Tryz.ntmps94;go_wp2_with (first
   |(go_at_call 194;refine(HE.o).mono ?_;rintro e w1 ⟨rfl,rfl⟩)
   |(go_at_call 387;refine(HB.o).mono ?_;rintro e w1 ⟨rfl,rfl⟩)
   |(go_at_call 92;refine(HO.o).mono ?_;rintro e w1 ⟨rfl,hs⟩;have HY:=h_ hs;clear hs)
   |(go_at_call 108;refine(HW.o _ HY.o).mono ?_;rintro e w2 ⟨rfl,rfl⟩;obtain⟨g9,sp,z1,⟨u9,z2⟩,z3,z4,z5,z6⟩:=HTT.o _ HY.o;have Z5:=h_ z5;have Z6:=h_ z6;clear z5 z6)
   |(go_at_call 136;refine(Z5.out).mono ?_;rintro e w3 ⟨rfl,rfl⟩))
  exact bodyPost_end (results_none rfl _ _ _) rfl ⟨rfl,Z6.out⟩
theorem at_toldfen (b:Nat)(s:PSt)(x:PAt)(h:Sat ω w (atH b s x*F))(f:PFe)(hi:x.inner=.fetch f)(hf0:f.rule.fin≠0)(hf5:f.rule.fin≠5)(hen:Calls Tryz.prog 135 #[.pointer (some ⟨b,0,none⟩)] w (Rets ω F (.tuple #[]) (atH b s (x.ended s))))(hn:∀c,(x.told s).inner=.commit c→c.now≤4611686018427387904):
  Calls Tryz.prog 94 #[.pointer (some ⟨b,0,none⟩)] w (Rets ω F (.tuple #[]) (atH b s (x.told s))):=by
 have hT:x.told s=stampT (x.ended s):=by
  rw[told_eq,hi];show stampT (if f.rule.fin=0 then x else if f.rule.fin=5 then x.out 5 0 f.rule.by_ else x.ended s)=_
  rw[if_neg hf0,if_neg hf5]
 have hi2:(stampT (x.ended s)).inner=((x.ended s):PAt).inner:=by unfold stampT;split<;>rfl
 rw[hT] at hn ⊢;rw[hi2] at hn;obtain⟨D,hx⟩:=atH_of h;have hb:=atX_blk hx;obtain⟨G,j1,_⟩:=at_inner hx;rw[hi] at j1;obtain⟨g,e1,e2,j3,_⟩:=inH_fe j1;have hg:=j3.blk;have c15:w.cell? ⟨b,15,none⟩=some (.iface 194 (.pointer (some ⟨g,0,none⟩))):=by have:=hb.cell 15;rw[this];show some D.inn=_;rw[e1]
 have lt:=hb.lt;have HE:=h_ (fe_endOf w g f hg);have HB:=h_ (fe_byOf w g f hg);have HO:=h_ hen;have d0:((f.rule.fin:Int)==0)=false:=by simp;omega
 have d5:((f.rule.fin:Int)==5)=false:=by simp;omega
 obtain⟨y,hy⟩:∃y,(x.ended s)=y:=⟨_,rfl⟩;rw[hy] at hn HO ⊢;have HW:Hid (∀w1,Sat ω w1 (atH b s y*F)→Calls Tryz.prog 108 #[.pointer (some ⟨b,0,none⟩)] w1 fun e w'=>e=.returned (.bool y.writing)∧w'=w1):=h_ (fun w1 h1=>at_writing ω w1 F b s y h1)
 have hm:=me_feEnd;have hm2:=me_feBy;cases hwr:y.writing
 ·have hst:stampT y=y:=by unfold stampT;rw[if_neg (by simp[hwr])]
  rw[hst];rw[hwr] at HW;generalize f.rule.fin=ff at *
  generalize f.rule.by_=fb at *
  clear h hx hb j1 j3 hg e1 e2 hi hT hi2 hy hf0 hf5 hen hwr hst hn;go_enter Tryz.func94,Tryz.ntmps94;go_wp2_with (first
   |(go_at_call 194;refine(HE.o).mono ?_;rintro e w1 ⟨rfl,rfl⟩)
   |(go_at_call 135;refine(HO.o).mono ?_;rintro e w1 ⟨rfl,hs⟩;have HY:=h_ hs;clear hs)
   |(go_at_call 108;refine(HW.o _ HY.o).mono ?_;rintro e w2 ⟨rfl,rfl⟩))
  exact bodyPost_end (results_none rfl _ _ _) rfl ⟨rfl,HY.o⟩
 ·have HTT:Hid (∀w1,Sat ω w1 (atH b s y*F)→∃g sp,ToT ω w1 F b s y g sp):=h_ (fun w1 h1=>toT_of h1 hwr hn)
  rw[hwr] at HW;generalize f.rule.fin=ff at *
  generalize f.rule.by_=fb at *
  clear h hx hb j1 j3 hg e1 e2 hi hT hi2 hy hf0 hf5 hen hwr hn;go_enter Tryz.func94,Tryz.ntmps94;go_wp2_with (first
   |(go_at_call 194;refine(HE.o).mono ?_;rintro e w1 ⟨rfl,rfl⟩)
   |(go_at_call 135;refine(HO.o).mono ?_;rintro e w1 ⟨rfl,hs⟩;have HY:=h_ hs;clear hs)
   |(go_at_call 108;refine(HW.o _ HY.o).mono ?_;rintro e w2 ⟨rfl,rfl⟩;obtain⟨g9,sp,z1,⟨u9,z2⟩,z3,z4,z5,z6⟩:=HTT.o _ HY.o;have Z5:=h_ z5;have Z6:=h_ z6;clear z5 z6)
   |(go_at_call 136;refine(Z5.out).mono ?_;rintro e w3 ⟨rfl,rfl⟩))
  exact bodyPost_end (results_none rfl _ _ _) rfl ⟨rfl,Z6.out⟩
theorem at_toldex0 (b:Nat)(s:PSt)(x:PAt)(h:Sat ω w (atH b s x*F))(f:PEx)(hi:x.inner=.extend f)(hf:f.rule.fin=0)(hn:∀c,(x.told s).inner=.commit c→c.now≤4611686018427387904):
  Calls Tryz.prog 94 #[.pointer (some ⟨b,0,none⟩)] w (Rets ω F (.tuple #[]) (atH b s (x.told s))):=by
 have hT:x.told s=stampT x:=by
  rw[told_eq,hi];show stampT (if f.rule.fin=0 then x else if f.rule.fin=5 then x.out 5 0 f.rule.by_ else x.ended s)=_
  rw[if_pos hf]
 have hi2:(stampT x).inner=(x:PAt).inner:=by unfold stampT;split<;>rfl
 rw[hT] at hn ⊢;rw[hi2] at hn;obtain⟨D,hx⟩:=atH_of h;have hb:=atX_blk hx;obtain⟨G,j1,_⟩:=at_inner hx;rw[hi] at j1;obtain⟨g,e1,e2,j3,_⟩:=inH_ex j1;obtain⟨A,c,j4⟩:=extH_of j3;have hg:=j4.assoc.blk;have c15:w.cell? ⟨b,15,none⟩=some (.iface 195 (.pointer (some ⟨g,0,none⟩))):=by have:=hb.cell 15;rw[this];show some D.inn=_;rw[e1]
 have lt:=hb.lt;have HE:=h_ (ex_endOf w g f A c hg);have HB:=h_ (ex_byOf w g f A c hg);have HY:Hid (Sat ω w (atH b s x*F)):=h_ h;rw[hf] at HE;have q1:True:=trivial;obtain⟨y,hy⟩:∃y,x=y:=⟨_,rfl⟩;rw[hy] at hn HY ⊢;have HW:Hid (∀w1,Sat ω w1 (atH b s y*F)→Calls Tryz.prog 108 #[.pointer (some ⟨b,0,none⟩)] w1 fun e w'=>e=.returned (.bool y.writing)∧w'=w1):=h_ (fun w1 h1=>at_writing ω w1 F b s y h1)
 have hm:=me_exEnd;have hm2:=me_exBy;cases hwr:y.writing
 ·have hst:stampT y=y:=by unfold stampT;rw[if_neg (by simp[hwr])]
  rw[hst];rw[hwr] at HW;generalize f.rule.fin=ff at *
  generalize f.rule.by_=fb at *
  clear h hx hb j1 j3 j4 hg e1 e2 hi hT hi2 hy hf hwr hst hn;go_enter Tryz.func94,Tryz.ntmps94;go_wp2_with (first
   |(go_at_call 199;refine(HE.o).mono ?_;rintro e w1 ⟨rfl,rfl⟩)
   |(go_at_call 108;refine(HW.o _ HY.o).mono ?_;rintro e w2 ⟨rfl,rfl⟩))
  exact bodyPost_end (results_none rfl _ _ _) rfl ⟨rfl,HY.o⟩
 ·have HTT:Hid (∀w1,Sat ω w1 (atH b s y*F)→∃g sp,ToT ω w1 F b s y g sp):=h_ (fun w1 h1=>toT_of h1 hwr hn)
  rw[hwr] at HW;generalize f.rule.fin=ff at *
  generalize f.rule.by_=fb at *
  clear h hx hb j1 j3 j4 hg e1 e2 hi hT hi2 hy hf hwr hn;go_enter Tryz.func94,Tryz.ntmps94;go_wp2_with (first
   |(go_at_call 199;refine(HE.o).mono ?_;rintro e w1 ⟨rfl,rfl⟩)
   |(go_at_call 108;refine(HW.o _ HY.o).mono ?_;rintro e w2 ⟨rfl,rfl⟩;obtain⟨g9,sp,z1,⟨u9,z2⟩,z3,z4,z5,z6⟩:=HTT.o _ HY.o;have Z5:=h_ z5;have Z6:=h_ z6;clear z5 z6)
   |(go_at_call 136;refine(Z5.out).mono ?_;rintro e w3 ⟨rfl,rfl⟩))
  exact bodyPost_end (results_none rfl _ _ _) rfl ⟨rfl,Z6.out⟩
theorem at_toldex5 (b:Nat)(s:PSt)(x:PAt)(h:Sat ω w (atH b s x*F))(f:PEx)(hi:x.inner=.extend f)(hf:f.rule.fin=5)(hn:∀c,(x.told s).inner=.commit c→c.now≤4611686018427387904):
  Calls Tryz.prog 94 #[.pointer (some ⟨b,0,none⟩)] w (Rets ω F (.tuple #[]) (atH b s (x.told s))):=by
 have hT:x.told s=stampT (x.out 5 0 f.rule.by_):=by
  rw[told_eq,hi];show stampT (if f.rule.fin=0 then x else if f.rule.fin=5 then x.out 5 0 f.rule.by_ else x.ended s)=_
  rw[if_neg (by omega),if_pos hf]
 have hi2:(stampT (x.out 5 0 f.rule.by_)).inner=((x.out 5 0 f.rule.by_):PAt).inner:=by unfold stampT;split<;>rfl
 rw[hT] at hn ⊢;rw[hi2] at hn;obtain⟨D,hx⟩:=atH_of h;have hb:=atX_blk hx;obtain⟨G,j1,_⟩:=at_inner hx;rw[hi] at j1;obtain⟨g,e1,e2,j3,_⟩:=inH_ex j1;obtain⟨A,c,j4⟩:=extH_of j3;have hg:=j4.assoc.blk;have c15:w.cell? ⟨b,15,none⟩=some (.iface 195 (.pointer (some ⟨g,0,none⟩))):=by have:=hb.cell 15;rw[this];show some D.inn=_;rw[e1]
 have lt:=hb.lt;have HE:=h_ (ex_endOf w g f A c hg);have HB:=h_ (ex_byOf w g f A c hg);have HO:=h_ (at_out ω w F b s x h 5 0 f.rule.by_);rw[hf] at HE;obtain⟨y,hy⟩:∃y,(x.out 5 0 f.rule.by_)=y:=⟨_,rfl⟩;rw[hy] at hn HO ⊢;have HW:Hid (∀w1,Sat ω w1 (atH b s y*F)→Calls Tryz.prog 108 #[.pointer (some ⟨b,0,none⟩)] w1 fun e w'=>e=.returned (.bool y.writing)∧w'=w1):=h_ (fun w1 h1=>at_writing ω w1 F b s y h1)
 have hm:=me_exEnd;have hm2:=me_exBy;cases hwr:y.writing
 ·have hst:stampT y=y:=by unfold stampT;rw[if_neg (by simp[hwr])]
  rw[hst];rw[hwr] at HW;generalize f.rule.fin=ff at *
  generalize f.rule.by_=fb at *
  clear h hx hb j1 j3 j4 hg e1 e2 hi hT hi2 hy hf hwr hst hn;go_enter Tryz.func94,Tryz.ntmps94;go_wp2_with (first
   |(go_at_call 199;refine(HE.o).mono ?_;rintro e w1 ⟨rfl,rfl⟩)
   |(go_at_call 395;refine(HB.o).mono ?_;rintro e w1 ⟨rfl,rfl⟩)
   |(go_at_call 92;refine(HO.o).mono ?_;rintro e w1 ⟨rfl,hs⟩;have HY:=h_ hs;clear hs)
   |(go_at_call 108;refine(HW.o _ HY.o).mono ?_;rintro e w2 ⟨rfl,rfl⟩))
  exact bodyPost_end (results_none rfl _ _ _) rfl ⟨rfl,HY.o⟩
 ·have HTT:Hid (∀w1,Sat ω w1 (atH b s y*F)→∃g sp,ToT ω w1 F b s y g sp):=h_ (fun w1 h1=>toT_of h1 hwr hn)
  rw[hwr] at HW;generalize f.rule.fin=ff at *
  generalize f.rule.by_=fb at *
  clear h hx hb j1 j3 j4 hg e1 e2 hi hT hi2 hy hf hwr hn;go_enter Tryz.func94,Tryz.ntmps94;go_wp2_with (first
   |(go_at_call 199;refine(HE.o).mono ?_;rintro e w1 ⟨rfl,rfl⟩)
   |(go_at_call 395;refine(HB.o).mono ?_;rintro e w1 ⟨rfl,rfl⟩)
   |(go_at_call 92;refine(HO.o).mono ?_;rintro e w1 ⟨rfl,hs⟩;have HY:=h_ hs;clear hs)
   |(go_at_call 108;refine(HW.o _ HY.o).mono ?_;rintro e w2 ⟨rfl,rfl⟩;obtain⟨g9,sp,z1,⟨u9,z2⟩,z3,z4,z5,z6⟩:=HTT.o _ HY.o;have Z5:=h_ z5;have Z6:=h_ z6;clear z5 z6)
   |(go_at_call 136;refine(Z5.out).mono ?_;rintro e w3 ⟨rfl,rfl⟩))
  exact bodyPost_end (results_none rfl _ _ _) rfl ⟨rfl,Z6.out⟩
theorem at_toldexn (b:Nat)(s:PSt)(x:PAt)(h:Sat ω w (atH b s x*F))(f:PEx)(hi:x.inner=.extend f)(hf0:f.rule.fin≠0)(hf5:f.rule.fin≠5)(hen:Calls Tryz.prog 135 #[.pointer (some ⟨b,0,none⟩)] w (Rets ω F (.tuple #[]) (atH b s (x.ended s))))(hn:∀c,(x.told s).inner=.commit c→c.now≤4611686018427387904):
  Calls Tryz.prog 94 #[.pointer (some ⟨b,0,none⟩)] w (Rets ω F (.tuple #[]) (atH b s (x.told s))):=by
 have hT:x.told s=stampT (x.ended s):=by
  rw[told_eq,hi];show stampT (if f.rule.fin=0 then x else if f.rule.fin=5 then x.out 5 0 f.rule.by_ else x.ended s)=_
  rw[if_neg hf0,if_neg hf5]
 have hi2:(stampT (x.ended s)).inner=((x.ended s):PAt).inner:=by unfold stampT;split<;>rfl
 rw[hT] at hn ⊢;rw[hi2] at hn;obtain⟨D,hx⟩:=atH_of h;have hb:=atX_blk hx;obtain⟨G,j1,_⟩:=at_inner hx;rw[hi] at j1;obtain⟨g,e1,e2,j3,_⟩:=inH_ex j1;obtain⟨A,c,j4⟩:=extH_of j3;have hg:=j4.assoc.blk;have c15:w.cell? ⟨b,15,none⟩=some (.iface 195 (.pointer (some ⟨g,0,none⟩))):=by have:=hb.cell 15;rw[this];show some D.inn=_;rw[e1]
 have lt:=hb.lt;have HE:=h_ (ex_endOf w g f A c hg);have HB:=h_ (ex_byOf w g f A c hg);have HO:=h_ hen;have d0:((f.rule.fin:Int)==0)=false:=by simp;omega
 have d5:((f.rule.fin:Int)==5)=false:=by simp;omega
 obtain⟨y,hy⟩:∃y,(x.ended s)=y:=⟨_,rfl⟩;rw[hy] at hn HO ⊢;have HW:Hid (∀w1,Sat ω w1 (atH b s y*F)→Calls Tryz.prog 108 #[.pointer (some ⟨b,0,none⟩)] w1 fun e w'=>e=.returned (.bool y.writing)∧w'=w1):=h_ (fun w1 h1=>at_writing ω w1 F b s y h1)
 have hm:=me_exEnd;have hm2:=me_exBy;cases hwr:y.writing
 ·have hst:stampT y=y:=by unfold stampT;rw[if_neg (by simp[hwr])]
  rw[hst];rw[hwr] at HW;generalize f.rule.fin=ff at *
  generalize f.rule.by_=fb at *
  clear h hx hb j1 j3 j4 hg e1 e2 hi hT hi2 hy hf0 hf5 hen hwr hst hn;go_enter Tryz.func94,Tryz.ntmps94;go_wp2_with (first
   |(go_at_call 199;refine(HE.o).mono ?_;rintro e w1 ⟨rfl,rfl⟩)
   |(go_at_call 135;refine(HO.o).mono ?_;rintro e w1 ⟨rfl,hs⟩;have HY:=h_ hs;clear hs)
   |(go_at_call 108;refine(HW.o _ HY.o).mono ?_;rintro e w2 ⟨rfl,rfl⟩))
  exact bodyPost_end (results_none rfl _ _ _) rfl ⟨rfl,HY.o⟩
 ·have HTT:Hid (∀w1,Sat ω w1 (atH b s y*F)→∃g sp,ToT ω w1 F b s y g sp):=h_ (fun w1 h1=>toT_of h1 hwr hn)
  rw[hwr] at HW;generalize f.rule.fin=ff at *
  generalize f.rule.by_=fb at *
  clear h hx hb j1 j3 j4 hg e1 e2 hi hT hi2 hy hf0 hf5 hen hwr hn;go_enter Tryz.func94,Tryz.ntmps94;go_wp2_with (first
   |(go_at_call 199;refine(HE.o).mono ?_;rintro e w1 ⟨rfl,rfl⟩)
   |(go_at_call 135;refine(HO.o).mono ?_;rintro e w1 ⟨rfl,hs⟩;have HY:=h_ hs;clear hs)
   |(go_at_call 108;refine(HW.o _ HY.o).mono ?_;rintro e w2 ⟨rfl,rfl⟩;obtain⟨g9,sp,z1,⟨u9,z2⟩,z3,z4,z5,z6⟩:=HTT.o _ HY.o;have Z5:=h_ z5;have Z6:=h_ z6;clear z5 z6)
   |(go_at_call 136;refine(Z5.out).mono ?_;rintro e w3 ⟨rfl,rfl⟩))
  exact bodyPost_end (results_none rfl _ _ _) rfl ⟨rfl,Z6.out⟩
theorem at_toldco0 (b:Nat)(s:PSt)(x:PAt)(h:Sat ω w (atH b s x*F))(f:PCo)(hi:x.inner=.commit f)(hf:f.rule.fin=0)(hn:∀c,(x.told s).inner=.commit c→c.now≤4611686018427387904):
  Calls Tryz.prog 94 #[.pointer (some ⟨b,0,none⟩)] w (Rets ω F (.tuple #[]) (atH b s (x.told s))):=by
 have hT:x.told s=stampT x:=by
  rw[told_eq,hi];show stampT (if f.rule.fin=0 then x else if f.rule.fin=5 then x.out 5 0 f.rule.by_ else x.ended s)=_
  rw[if_pos hf]
 have hi2:(stampT x).inner=(x:PAt).inner:=by unfold stampT;split<;>rfl
 rw[hT] at hn ⊢;rw[hi2] at hn;obtain⟨D,hx⟩:=atH_of h;have hb:=atX_blk hx;obtain⟨G,j1,_⟩:=at_inner hx;rw[hi] at j1;obtain⟨g,e1,e2,j3,_⟩:=inH_co j1;obtain⟨CD,hg⟩:=coH_of j3;have c15:w.cell? ⟨b,15,none⟩=some (.iface 196 (.pointer (some ⟨g,0,none⟩))):=by have:=hb.cell 15;rw[this];show some D.inn=_;rw[e1]
 have lt:=hb.lt;have HE:=h_ (co_endOf w g f CD hg);have HB:=h_ (co_byOf w g f CD hg);have HY:Hid (Sat ω w (atH b s x*F)):=h_ h;rw[hf] at HE;have q1:True:=trivial;obtain⟨y,hy⟩:∃y,x=y:=⟨_,rfl⟩;rw[hy] at hn HY ⊢;have HW:Hid (∀w1,Sat ω w1 (atH b s y*F)→Calls Tryz.prog 108 #[.pointer (some ⟨b,0,none⟩)] w1 fun e w'=>e=.returned (.bool y.writing)∧w'=w1):=h_ (fun w1 h1=>at_writing ω w1 F b s y h1)
 have hm:=me_coEnd;have hm2:=me_coBy;cases hwr:y.writing
 ·have hst:stampT y=y:=by unfold stampT;rw[if_neg (by simp[hwr])]
  rw[hst];rw[hwr] at HW;generalize f.rule.fin=ff at *
  generalize f.rule.by_=fb at *
  clear h hx hb j1 j3 hg e1 e2 hi hT hi2 hy hf hwr hst hn;go_enter Tryz.func94,Tryz.ntmps94;go_wp2_with (first
   |(go_at_call 145;refine(HE.o).mono ?_;rintro e w1 ⟨rfl,rfl⟩)
   |(go_at_call 108;refine(HW.o _ HY.o).mono ?_;rintro e w2 ⟨rfl,rfl⟩))
  exact bodyPost_end (results_none rfl _ _ _) rfl ⟨rfl,HY.o⟩
 ·have HTT:Hid (∀w1,Sat ω w1 (atH b s y*F)→∃g sp,ToT ω w1 F b s y g sp):=h_ (fun w1 h1=>toT_of h1 hwr hn)
  rw[hwr] at HW;generalize f.rule.fin=ff at *
  generalize f.rule.by_=fb at *
  clear h hx hb j1 j3 hg e1 e2 hi hT hi2 hy hf hwr hn;go_enter Tryz.func94,Tryz.ntmps94;go_wp2_with (first
   |(go_at_call 145;refine(HE.o).mono ?_;rintro e w1 ⟨rfl,rfl⟩)
   |(go_at_call 108;refine(HW.o _ HY.o).mono ?_;rintro e w2 ⟨rfl,rfl⟩;obtain⟨g9,sp,z1,⟨u9,z2⟩,z3,z4,z5,z6⟩:=HTT.o _ HY.o;have Z5:=h_ z5;have Z6:=h_ z6;clear z5 z6)
   |(go_at_call 136;refine(Z5.out).mono ?_;rintro e w3 ⟨rfl,rfl⟩))
  exact bodyPost_end (results_none rfl _ _ _) rfl ⟨rfl,Z6.out⟩
theorem at_toldco5 (b:Nat)(s:PSt)(x:PAt)(h:Sat ω w (atH b s x*F))(f:PCo)(hi:x.inner=.commit f)(hf:f.rule.fin=5)(hn:∀c,(x.told s).inner=.commit c→c.now≤4611686018427387904):
  Calls Tryz.prog 94 #[.pointer (some ⟨b,0,none⟩)] w (Rets ω F (.tuple #[]) (atH b s (x.told s))):=by
 have hT:x.told s=stampT (x.out 5 0 f.rule.by_):=by
  rw[told_eq,hi];show stampT (if f.rule.fin=0 then x else if f.rule.fin=5 then x.out 5 0 f.rule.by_ else x.ended s)=_
  rw[if_neg (by omega),if_pos hf]
 have hi2:(stampT (x.out 5 0 f.rule.by_)).inner=((x.out 5 0 f.rule.by_):PAt).inner:=by unfold stampT;split<;>rfl
 rw[hT] at hn ⊢;rw[hi2] at hn;obtain⟨D,hx⟩:=atH_of h;have hb:=atX_blk hx;obtain⟨G,j1,_⟩:=at_inner hx;rw[hi] at j1;obtain⟨g,e1,e2,j3,_⟩:=inH_co j1;obtain⟨CD,hg⟩:=coH_of j3;have c15:w.cell? ⟨b,15,none⟩=some (.iface 196 (.pointer (some ⟨g,0,none⟩))):=by have:=hb.cell 15;rw[this];show some D.inn=_;rw[e1]
 have lt:=hb.lt;have HE:=h_ (co_endOf w g f CD hg);have HB:=h_ (co_byOf w g f CD hg);have HO:=h_ (at_out ω w F b s x h 5 0 f.rule.by_);rw[hf] at HE;obtain⟨y,hy⟩:∃y,(x.out 5 0 f.rule.by_)=y:=⟨_,rfl⟩;rw[hy] at hn HO ⊢;have HW:Hid (∀w1,Sat ω w1 (atH b s y*F)→Calls Tryz.prog 108 #[.pointer (some ⟨b,0,none⟩)] w1 fun e w'=>e=.returned (.bool y.writing)∧w'=w1):=h_ (fun w1 h1=>at_writing ω w1 F b s y h1)
 have hm:=me_coEnd;have hm2:=me_coBy;cases hwr:y.writing
 ·have hst:stampT y=y:=by unfold stampT;rw[if_neg (by simp[hwr])]
  rw[hst];rw[hwr] at HW;generalize f.rule.fin=ff at *
  generalize f.rule.by_=fb at *
  clear h hx hb j1 j3 hg e1 e2 hi hT hi2 hy hf hwr hst hn;go_enter Tryz.func94,Tryz.ntmps94;go_wp2_with (first
   |(go_at_call 145;refine(HE.o).mono ?_;rintro e w1 ⟨rfl,rfl⟩)
   |(go_at_call 398;refine(HB.o).mono ?_;rintro e w1 ⟨rfl,rfl⟩)
   |(go_at_call 92;refine(HO.o).mono ?_;rintro e w1 ⟨rfl,hs⟩;have HY:=h_ hs;clear hs)
   |(go_at_call 108;refine(HW.o _ HY.o).mono ?_;rintro e w2 ⟨rfl,rfl⟩))
  exact bodyPost_end (results_none rfl _ _ _) rfl ⟨rfl,HY.o⟩
 ·have HTT:Hid (∀w1,Sat ω w1 (atH b s y*F)→∃g sp,ToT ω w1 F b s y g sp):=h_ (fun w1 h1=>toT_of h1 hwr hn)
  rw[hwr] at HW;generalize f.rule.fin=ff at *
  generalize f.rule.by_=fb at *
  clear h hx hb j1 j3 hg e1 e2 hi hT hi2 hy hf hwr hn;go_enter Tryz.func94,Tryz.ntmps94;go_wp2_with (first
   |(go_at_call 145;refine(HE.o).mono ?_;rintro e w1 ⟨rfl,rfl⟩)
   |(go_at_call 398;refine(HB.o).mono ?_;rintro e w1 ⟨rfl,rfl⟩)
   |(go_at_call 92;refine(HO.o).mono ?_;rintro e w1 ⟨rfl,hs⟩;have HY:=h_ hs;clear hs)
   |(go_at_call 108;refine(HW.o _ HY.o).mono ?_;rintro e w2 ⟨rfl,rfl⟩;obtain⟨g9,sp,z1,⟨u9,z2⟩,z3,z4,z5,z6⟩:=HTT.o _ HY.o;have Z5:=h_ z5;have Z6:=h_ z6;clear z5 z6)
   |(go_at_call 136;refine(Z5.out).mono ?_;rintro e w3 ⟨rfl,rfl⟩))
  exact bodyPost_end (results_none rfl _ _ _) rfl ⟨rfl,Z6.out⟩
theorem at_toldcon (b:Nat)(s:PSt)(x:PAt)(h:Sat ω w (atH b s x*F))(f:PCo)(hi:x.inner=.commit f)(hf0:f.rule.fin≠0)(hf5:f.rule.fin≠5)(hen:Calls Tryz.prog 135 #[.pointer (some ⟨b,0,none⟩)] w (Rets ω F (.tuple #[]) (atH b s (x.ended s))))(hn:∀c,(x.told s).inner=.commit c→c.now≤4611686018427387904):
  Calls Tryz.prog 94 #[.pointer (some ⟨b,0,none⟩)] w (Rets ω F (.tuple #[]) (atH b s (x.told s))):=by
 have hT:x.told s=stampT (x.ended s):=by
  rw[told_eq,hi];show stampT (if f.rule.fin=0 then x else if f.rule.fin=5 then x.out 5 0 f.rule.by_ else x.ended s)=_
  rw[if_neg hf0,if_neg hf5]
 have hi2:(stampT (x.ended s)).inner=((x.ended s):PAt).inner:=by unfold stampT;split<;>rfl
 rw[hT] at hn ⊢;rw[hi2] at hn;obtain⟨D,hx⟩:=atH_of h;have hb:=atX_blk hx;obtain⟨G,j1,_⟩:=at_inner hx;rw[hi] at j1;obtain⟨g,e1,e2,j3,_⟩:=inH_co j1;obtain⟨CD,hg⟩:=coH_of j3;have c15:w.cell? ⟨b,15,none⟩=some (.iface 196 (.pointer (some ⟨g,0,none⟩))):=by have:=hb.cell 15;rw[this];show some D.inn=_;rw[e1]
 have lt:=hb.lt;have HE:=h_ (co_endOf w g f CD hg);have HB:=h_ (co_byOf w g f CD hg);have HO:=h_ hen;have d0:((f.rule.fin:Int)==0)=false:=by simp;omega
 have d5:((f.rule.fin:Int)==5)=false:=by simp;omega
 obtain⟨y,hy⟩:∃y,(x.ended s)=y:=⟨_,rfl⟩;rw[hy] at hn HO ⊢;have HW:Hid (∀w1,Sat ω w1 (atH b s y*F)→Calls Tryz.prog 108 #[.pointer (some ⟨b,0,none⟩)] w1 fun e w'=>e=.returned (.bool y.writing)∧w'=w1):=h_ (fun w1 h1=>at_writing ω w1 F b s y h1)
 have hm:=me_coEnd;have hm2:=me_coBy;cases hwr:y.writing
 ·have hst:stampT y=y:=by unfold stampT;rw[if_neg (by simp[hwr])]
  rw[hst];rw[hwr] at HW;generalize f.rule.fin=ff at *
  generalize f.rule.by_=fb at *
  clear h hx hb j1 j3 hg e1 e2 hi hT hi2 hy hf0 hf5 hen hwr hst hn;go_enter Tryz.func94,Tryz.ntmps94;go_wp2_with (first
   |(go_at_call 145;refine(HE.o).mono ?_;rintro e w1 ⟨rfl,rfl⟩)
   |(go_at_call 135;refine(HO.o).mono ?_;rintro e w1 ⟨rfl,hs⟩;have HY:=h_ hs;clear hs)
   |(go_at_call 108;refine(HW.o _ HY.o).mono ?_;rintro e w2 ⟨rfl,rfl⟩))
  exact bodyPost_end (results_none rfl _ _ _) rfl ⟨rfl,HY.o⟩
 ·have HTT:Hid (∀w1,Sat ω w1 (atH b s y*F)→∃g sp,ToT ω w1 F b s y g sp):=h_ (fun w1 h1=>toT_of h1 hwr hn)
  rw[hwr] at HW;generalize f.rule.fin=ff at *
  generalize f.rule.by_=fb at *
  clear h hx hb j1 j3 hg e1 e2 hi hT hi2 hy hf0 hf5 hen hwr hn;go_enter Tryz.func94,Tryz.ntmps94;go_wp2_with (first
   |(go_at_call 145;refine(HE.o).mono ?_;rintro e w1 ⟨rfl,rfl⟩)
   |(go_at_call 135;refine(HO.o).mono ?_;rintro e w1 ⟨rfl,hs⟩;have HY:=h_ hs;clear hs)
   |(go_at_call 108;refine(HW.o _ HY.o).mono ?_;rintro e w2 ⟨rfl,rfl⟩;obtain⟨g9,sp,z1,⟨u9,z2⟩,z3,z4,z5,z6⟩:=HTT.o _ HY.o;have Z5:=h_ z5;have Z6:=h_ z6;clear z5 z6)
   |(go_at_call 136;refine(Z5.out).mono ?_;rintro e w3 ⟨rfl,rfl⟩))
  exact bodyPost_end (results_none rfl _ _ _) rfl ⟨rfl,Z6.out⟩
end
end Go.Proofs.YtfodmgaliclhfaaGreatDoor
