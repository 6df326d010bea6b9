/- Lemmas. -/
import Derived.Test.YtfodmgaliclhfaaGreatDoorGAtNext
namespace Go.Proofs.YtfodmgaliclhfaaGreatDoor
set_option linter.unusedVariables false
set_option linter.unusedSimpArgs false
set_option maxRecDepth 100000
set_option maxHeartbeats 8000000
open Go.RowKit Go.Proofs.Tryz Iq Jq
section
variable (ω w : World) (F : HP)
theorem Pr {w W:World}{p:Nat}{ok:Bool}{kind at_ old word wv wo lv lo:Nat}{wh lh:Bool}{tmps:Array Value}(h2:tmps.getD 2 undef=.pointer p)(h3:tmps.getD 3 undef=.bool ok){cs:Array Value}(hb:Blk W p 95 cs)(hcs:cs=#[.int .i64 kind,.int .i64 at_,.int .u64 old,.int .u64 word,.int .u64 wv,.bool wh,.int .i64 wo,.int .u64 lv,.bool lh,.int .i64 lo])(ho:Only Nob w W):
  bodyPost prog f59 (fun e w'=>e=.returned (.tuple #[.agg #[kind,at_,υ old,υ word,υ wv,.bool wh,wo,υ lv,.bool lh,lo],.bool ok])∧Only Nob w w') Exit.ret {tmps:=tmps,defers:=[]} W:=by
 subst hcs;have kl:=hb.lt;have m0:=hb.c 0;have m1:=hb.c 1;have m2:=hb.c 2;have m3:=hb.c 3;have m4:=hb.c 4;have m5:=hb.c 5;have m6:=hb.c 6;have m7:=hb.c 7;have m8:=hb.c 8;have m9:=hb.c 9;refine bodyPost_ret (v:=.tuple #[.agg #[kind,at_,υ old,υ word,υ wv,.bool wh,wo,υ lv,.bool lh,lo],.bool ok]) ?_ rfl ⟨rfl,ho⟩;have h2':tmps[2]?.getD undef=.pointer p:=by simpa using h2
 have h3':tmps[3]?.getD undef=.bool ok:=by simpa using h3
 simp[results,results59,go_sem,h2',h3',m0,m1,m2,m3,m4,m5,m6,m7,m8,m9]
theorem Qy (b:Nat)(s:PSt)(x:PAt)(h:Sat ω w (atH b s x*F))(k:Nat)(hk:k=3∨k=4∨k=5∨k=6)(hst:x.state=k)(f:PFe)(hi:x.inner=.fetch f):
  Calls prog 59 #[.pointer b] w (AtNext w x.next):=by
 have HE:Hid (x.next=f.next):=h_ (by unfold PAt.next;rw[hst];rcases hk with rfl|rfl|rfl|rfl<;>(rw[hi];rfl))
 obtain⟨D,hx⟩:=AC h;have hb:=AA hx;obtain⟨G,h1,_⟩:=AF hx;rw[hi] at h1;obtain⟨g,e1,e2,h2,_⟩:=Ci h1;have c14:w.cell? (κ b 14)=some (.int .i64 k):=by have:=hb.cell 14;rw[this];show some (Value.int .i64 x.state)=_;rw[hst]
 have c15:w.cell? (κ b 15)=some (.iface 194 (.pointer g)):=by have:=hb.cell 15;rw[this];show some D.inn=_;rw[e1]
 have lt:=hb.lt;have lt1:b<w.heap.size+1:=by omega
 have HN:Hid (∀o,Calls prog 388 #[.pointer g] (w.alloc o) fun e w'=>e=.returned (.tuple #[opA f.next.1,.bool f.next.2])∧Only Nob (w.alloc o) w'):=h_ (fun o=>Sb _ g f ((h2.junk o).blk))
 have HO:Hid (Only Nob w (w.alloc (.cells ξ 95))):=h_ ((Only.refl _ _).alloc _);have hm:=Mx;rw[HE.o];unfold AtNext;generalize f.next=r at *
 obtain⟨⟨kind,at_,old,word,⟨wv,wh,wo⟩,⟨lv,lh,lo⟩⟩,ok⟩:=r;have n0:((k:Int)==0)=false:=by simp;omega
 have n1:((k:Int)==1)=false:=by simp;omega
 have n2:((k:Int)==2)=false:=by simp;omega
 have n7:((k:Int)==7)=false:=by simp;omega
 have n8:((k:Int)==8)=false:=by simp;omega
 unfold opA at HN ⊢;simp only at HN ⊢;have HB0:Hid (Blk (w.alloc (.cells ξ 95)) w.heap.size 95 ξ):=h_ (Blk.new _ _ _);go_enter func59,ntmps59;go_wp2_with (go_at_call 388;refine(HN.o _).mono ?_;rintro e w1 ⟨rfl,ho⟩;have kb:=HB0.o.only ho (fun e=>e);have kl:=kb.lt;have kf:=kb.frozen;have m0:=kb.cell 0;have m1:=kb.cell 1;have m2:=kb.cell 2;have m3:=kb.cell 3;have m4:=kb.cell 4;have m5:=kb.cell 5;have m6:=kb.cell 6;have m7:=kb.cell 7;have m8:=kb.cell 8;have m9:=kb.cell 9;have HO1:=h_ (HO.o.trans ho);have KB:=h_ kb)
 have KB2:=((((((((((KB.out.set_ 0 (.int .i64 kind)).set_ 1 (.int .i64 at_)).set_ 2 (.int .u64 old)).set_ 3 (.int .u64 word)).set_ 4 (.int .u64 wv)).set_ 5 (.bool wh)).set_ 6 (.int .i64 wo)).set_ 7 (.int .u64 lv)).set_ 8 (.bool lh)).set_ 9 (.int .i64 lo));have HO2:=((((((((((HO1.o.setCell (p:=⟨w.heap.size,0,none⟩) (.inr (Nat.le_refl _)) (.int .i64 kind)).setCell (p:=⟨w.heap.size,1,none⟩) (.inr (Nat.le_refl _)) (.int .i64 at_)).setCell (p:=⟨w.heap.size,2,none⟩) (.inr (Nat.le_refl _)) (.int .u64 old)).setCell (p:=⟨w.heap.size,3,none⟩) (.inr (Nat.le_refl _)) (.int .u64 word)).setCell (p:=⟨w.heap.size,4,none⟩) (.inr (Nat.le_refl _)) (.int .u64 wv)).setCell (p:=⟨w.heap.size,5,none⟩) (.inr (Nat.le_refl _)) (.bool wh)).setCell (p:=⟨w.heap.size,6,none⟩) (.inr (Nat.le_refl _)) (.int .i64 wo)).setCell (p:=⟨w.heap.size,7,none⟩) (.inr (Nat.le_refl _)) (.int .u64 lv)).setCell (p:=⟨w.heap.size,8,none⟩) (.inr (Nat.le_refl _)) (.bool lh)).setCell (p:=⟨w.heap.size,9,none⟩) (.inr (Nat.le_refl _)) (.int .i64 lo));refine Pr ?_ ?_ KB2 ?_ HO2
 ·simp
 ·simp
 ·simp
theorem JN (b:Nat)(s:PSt)(x:PAt)(h:Sat ω w (atH b s x*F))(k:Nat)(hk:k=3∨k=4∨k=5∨k=6)(hst:x.state=k)(f:PEx)(hi:x.inner=.extend f)(hl:f.seen.length≤1000)(hok:f.ok):
  Calls prog 59 #[.pointer b] w (AtNext w x.next):=by
 have HE:Hid (x.next=f.next):=h_ (by unfold PAt.next;rw[hst];rcases hk with rfl|rfl|rfl|rfl<;>(rw[hi];rfl))
 obtain⟨D,hx⟩:=AC h;have hb:=AA hx;obtain⟨G,h1,_⟩:=AF hx;rw[hi] at h1;obtain⟨g,e1,e2,h2,_⟩:=DT h1;have c14:w.cell? (κ b 14)=some (.int .i64 k):=by have:=hb.cell 14;rw[this];show some (Value.int .i64 x.state)=_;rw[hst]
 have c15:w.cell? (κ b 15)=some (.iface 195 (.pointer g)):=by have:=hb.cell 15;rw[this];show some D.inn=_;rw[e1]
 have lt:=hb.lt;have lt1:b<w.heap.size+1:=by omega
 have HN:Hid (∀o,Calls prog 396 #[.pointer g] (w.alloc o) fun e w'=>e=.returned (.tuple #[opA f.next.1,.bool f.next.2])∧Only Nob (w.alloc o) w'):=h_ (fun o=>Se ω _ _ g f (h2.junk o) hl hok)
 have HO:Hid (Only Nob w (w.alloc (.cells ξ 95))):=h_ ((Only.refl _ _).alloc _);have hm:=Mz;rw[HE.o];unfold AtNext;generalize f.next=r at *
 obtain⟨⟨kind,at_,old,word,⟨wv,wh,wo⟩,⟨lv,lh,lo⟩⟩,ok⟩:=r;have n0:((k:Int)==0)=false:=by simp;omega
 have n1:((k:Int)==1)=false:=by simp;omega
 have n2:((k:Int)==2)=false:=by simp;omega
 have n7:((k:Int)==7)=false:=by simp;omega
 have n8:((k:Int)==8)=false:=by simp;omega
 unfold opA at HN ⊢;simp only at HN ⊢;have HB0:Hid (Blk (w.alloc (.cells ξ 95)) w.heap.size 95 ξ):=h_ (Blk.new _ _ _);go_enter func59,ntmps59;go_wp2_with (go_at_call 396;refine(HN.o _).mono ?_;rintro e w1 ⟨rfl,ho⟩;have kb:=HB0.o.only ho (fun e=>e);have kl:=kb.lt;have kf:=kb.frozen;have m0:=kb.cell 0;have m1:=kb.cell 1;have m2:=kb.cell 2;have m3:=kb.cell 3;have m4:=kb.cell 4;have m5:=kb.cell 5;have m6:=kb.cell 6;have m7:=kb.cell 7;have m8:=kb.cell 8;have m9:=kb.cell 9;have HO1:=h_ (HO.o.trans ho);have KB:=h_ kb)
 have KB2:=((((((((((KB.out.set_ 0 (.int .i64 kind)).set_ 1 (.int .i64 at_)).set_ 2 (.int .u64 old)).set_ 3 (.int .u64 word)).set_ 4 (.int .u64 wv)).set_ 5 (.bool wh)).set_ 6 (.int .i64 wo)).set_ 7 (.int .u64 lv)).set_ 8 (.bool lh)).set_ 9 (.int .i64 lo));have HO2:=((((((((((HO1.o.setCell (p:=⟨w.heap.size,0,none⟩) (.inr (Nat.le_refl _)) (.int .i64 kind)).setCell (p:=⟨w.heap.size,1,none⟩) (.inr (Nat.le_refl _)) (.int .i64 at_)).setCell (p:=⟨w.heap.size,2,none⟩) (.inr (Nat.le_refl _)) (.int .u64 old)).setCell (p:=⟨w.heap.size,3,none⟩) (.inr (Nat.le_refl _)) (.int .u64 word)).setCell (p:=⟨w.heap.size,4,none⟩) (.inr (Nat.le_refl _)) (.int .u64 wv)).setCell (p:=⟨w.heap.size,5,none⟩) (.inr (Nat.le_refl _)) (.bool wh)).setCell (p:=⟨w.heap.size,6,none⟩) (.inr (Nat.le_refl _)) (.int .i64 wo)).setCell (p:=⟨w.heap.size,7,none⟩) (.inr (Nat.le_refl _)) (.int .u64 lv)).setCell (p:=⟨w.heap.size,8,none⟩) (.inr (Nat.le_refl _)) (.bool lh)).setCell (p:=⟨w.heap.size,9,none⟩) (.inr (Nat.le_refl _)) (.int .i64 lo));refine Pr ?_ ?_ KB2 ?_ HO2
 ·simp
 ·simp
 ·simp
theorem Qz (b:Nat)(s:PSt)(x:PAt)(h:Sat ω w (atH b s x*F))(k:Nat)(hk:k=3∨k=4∨k=5∨k=6)(hst:x.state=k)(f:PCo)(hi:x.inner=.commit f)(hc:f.set):
  Calls prog 59 #[.pointer b] w (AtNext w x.next):=by
 have HE:Hid (x.next=f.next):=h_ (by unfold PAt.next;rw[hst];rcases hk with rfl|rfl|rfl|rfl<;>(rw[hi];rfl))
 obtain⟨D,hx⟩:=AC h;have hb:=AA hx;obtain⟨G,h1,_⟩:=AF hx;rw[hi] at h1;obtain⟨g,e1,e2,h2,_⟩:=DU h1;have c14:w.cell? (κ b 14)=some (.int .i64 k):=by have:=hb.cell 14;rw[this];show some (Value.int .i64 x.state)=_;rw[hst]
 have c15:w.cell? (κ b 15)=some (.iface 196 (.pointer g)):=by have:=hb.cell 15;rw[this];show some D.inn=_;rw[e1]
 have lt:=hb.lt;have lt1:b<w.heap.size+1:=by omega
 have HN:Hid (∀o,Calls prog 399 #[.pointer g] (w.alloc o) fun e w'=>e=.returned (.tuple #[opA f.next.1,.bool f.next.2])∧Only Nob (w.alloc o) w'):=h_ (fun o=>Sq ω _ _ g f (h2.junk o) hc.w.small hc.w.ok)
 have HO:Hid (Only Nob w (w.alloc (.cells ξ 95))):=h_ ((Only.refl _ _).alloc _);have hm:=NB;rw[HE.o];unfold AtNext;generalize f.next=r at *
 obtain⟨⟨kind,at_,old,word,⟨wv,wh,wo⟩,⟨lv,lh,lo⟩⟩,ok⟩:=r;have n0:((k:Int)==0)=false:=by simp;omega
 have n1:((k:Int)==1)=false:=by simp;omega
 have n2:((k:Int)==2)=false:=by simp;omega
 have n7:((k:Int)==7)=false:=by simp;omega
 have n8:((k:Int)==8)=false:=by simp;omega
 unfold opA at HN ⊢;simp only at HN ⊢;have HB0:Hid (Blk (w.alloc (.cells ξ 95)) w.heap.size 95 ξ):=h_ (Blk.new _ _ _);go_enter func59,ntmps59;go_wp2_with (go_at_call 399;refine(HN.o _).mono ?_;rintro e w1 ⟨rfl,ho⟩;have kb:=HB0.o.only ho (fun e=>e);have kl:=kb.lt;have kf:=kb.frozen;have m0:=kb.cell 0;have m1:=kb.cell 1;have m2:=kb.cell 2;have m3:=kb.cell 3;have m4:=kb.cell 4;have m5:=kb.cell 5;have m6:=kb.cell 6;have m7:=kb.cell 7;have m8:=kb.cell 8;have m9:=kb.cell 9;have HO1:=h_ (HO.o.trans ho);have KB:=h_ kb)
 have KB2:=((((((((((KB.out.set_ 0 (.int .i64 kind)).set_ 1 (.int .i64 at_)).set_ 2 (.int .u64 old)).set_ 3 (.int .u64 word)).set_ 4 (.int .u64 wv)).set_ 5 (.bool wh)).set_ 6 (.int .i64 wo)).set_ 7 (.int .u64 lv)).set_ 8 (.bool lh)).set_ 9 (.int .i64 lo));have HO2:=((((((((((HO1.o.setCell (p:=⟨w.heap.size,0,none⟩) (.inr (Nat.le_refl _)) (.int .i64 kind)).setCell (p:=⟨w.heap.size,1,none⟩) (.inr (Nat.le_refl _)) (.int .i64 at_)).setCell (p:=⟨w.heap.size,2,none⟩) (.inr (Nat.le_refl _)) (.int .u64 old)).setCell (p:=⟨w.heap.size,3,none⟩) (.inr (Nat.le_refl _)) (.int .u64 word)).setCell (p:=⟨w.heap.size,4,none⟩) (.inr (Nat.le_refl _)) (.int .u64 wv)).setCell (p:=⟨w.heap.size,5,none⟩) (.inr (Nat.le_refl _)) (.bool wh)).setCell (p:=⟨w.heap.size,6,none⟩) (.inr (Nat.le_refl _)) (.int .i64 wo)).setCell (p:=⟨w.heap.size,7,none⟩) (.inr (Nat.le_refl _)) (.int .u64 lv)).setCell (p:=⟨w.heap.size,8,none⟩) (.inr (Nat.le_refl _)) (.bool lh)).setCell (p:=⟨w.heap.size,9,none⟩) (.inr (Nat.le_refl _)) (.int .i64 lo));refine Pr ?_ ?_ KB2 ?_ HO2
 ·simp
 ·simp
 ·simp
theorem TB (b:Nat)(s:PSt)(x:PAt)(h:Sat ω w (atH b s x*F))(hw:AtWell x):
  Calls prog 59 #[.pointer b] w (AtNext w x.next):=by
 have h8:=hw.st;rcases(by omega:x.state=0∨x.state=1∨x.state=2∨x.state=3∨x.state=4∨x.state=5∨x.state=6∨x.state=7∨x.state=8) with k|k|k|k|k|k|k|k|k
 ·exact RH ω w F b s x h k hw.stamp
 ·exact RG ω w F b s x h k hw.stamp
 ·exact RF ω w F b s x h k hw.stamp
 ·obtain⟨f,hf⟩:=hw.s3 k;exact Qy ω w F b s x h 3 (by omega) k f hf
 ·obtain⟨e,he,h1,h2,h3⟩:=hw.s4 (.inl k);exact JN ω w F b s x h 4 (by omega) k e he (by omega) h1
 ·obtain⟨e,he,h1,h2,h3⟩:=hw.s4 (.inr k);exact JN ω w F b s x h 5 (by omega) k e he (by omega) h1
 ·obtain⟨c,hc,h1⟩:=hw.s6 k;exact Qz ω w F b s x h 6 (by omega) k c hc h1
 ·exact RE ω w F b s x h k hw.stamp
 ·exact RD ω w F b s x h k hw.stamp
end
theorem ItFine.know {dep:Nat→Nat}{x:PIt}{v:PVw}(h:ItFine dep x v){p y:Nat}(hy:U64 y):ItFine dep x (v.know p y).2:=by
 obtain⟨q1,q2,q3⟩:=h.vf.know (p:=p) hy;exact⟨h.toItVal,h.code,q1,h.place,h.left,h.ways,fun h0=>by rw[q2];exact h.live h0⟩
def FeS (b:Nat)(s:PSt)(me stamp:Nat)(D:AtD)(g:Nat)(w:World):Prop:=AtCf b s me stamp D w∧w.cell? (κ b 16)=some (.pointer g)
theorem LC (ω w:World)(F:HP)(b:Nat)(s:PSt)(x:PAt)(h:Sat ω w (atH b s x*F))(f:PFe)(hi:x.inner=.fetch f)(dep:Nat→Nat)(hf:ItFine dep x.run x.v)(hfin:Fin4 x.run.fin)(hr:x.reads.length≤16)(hs:s.fit)(hu:U64 f.word):
  Calls prog 165 #[.pointer b] w (Rets ω F (.tuple #[]) (atH b s (x.fetched s f))):=by
 have hn:∀c,x.inner≠.commit c:=by rw[hi];simp
 have hvok:=hf.vf.ok;obtain⟨D,hx⟩:=AC h;obtain⟨G0,k1,k2⟩:=AF hx;rw[hi] at k1;obtain⟨g,e1,e2,k3,k4⟩:=Ci k1;have hFE:∀w1 y,y.inner=.fetch f→Sat ω w1 (atX b s y D*F)→Blk w1 g 283 (feC f):=fun w1 y hy h1=>by
  obtain⟨G1,j1,_⟩:=AF h1;rw[hy] at j1;obtain⟨g',e1',e2',j3,_⟩:=Ci j1;rw[e2] at e2';injection e2' with e2'
  injection e2' with e2'
  injection e2' with e2'
  subst e2';exact j3.blk
 have hSS:∀w1 (y:PAt),y.me=x.me→y.stamp=x.stamp→Sat ω w1 (atX b s y D*F)→FeS b s x.me x.stamp D g w1:=fun w1 y h1 h2 h3=>by
  have h4:=Ao (h3.emp_);rw[h1,h2] at h4;refine⟨h4,?_⟩
  have:=(AA h3).cell 16
  rw[this];show some D.fp=_
  rw[e2]
 have hdr:∀w1,FeS b s x.me x.stamp D g w1→FeS b s x.me x.stamp D g w1.drew:=fun w1 h1=>⟨h1.1.drewN 1,h1.2⟩
 have HEND:Hid (Calls prog 194 #[.pointer g] w fun e w'=>e=.returned f.rule.fin∧w'=w):=h_ (BZ w g f (hFE w x hi hx))
 have c16:w.cell? (κ b 16)=some (.pointer g):=(hSS w x rfl rfl hx).2;have lt:=(hSS w x rfl rfl hx).1.lt;by_cases h6:f.rule.fin=6
 ·have hW:x.fetched s f=x.later s 4:=by unfold PAt.fetched;rw[if_pos h6]
  rw[hW];have HL:=h_ (JO ω w F b s x h 4 hn (by omega))
  rw[h6] at HEND;clear h hx k1 k2 k3 k4 e1 e2 hFE hSS hdr hi hf hfin hr hs hu hn hvok h6 hW;go_enter func165,ntmps165;go_wp2_with (first
   |(go_at_call 194;refine(HEND.o).mono ?_;rintro e w1 ⟨rfl,rfl⟩)
   |(go_at_call 131;refine(HL.o).mono ?_;rintro e w1 ⟨rfl,hs⟩;have HZ:=h_ hs;clear hs))
  exact bodyPost_end (results_none rfl _ _ _) rfl ⟨rfl,HZ.o⟩
 ·obtain⟨st,hst⟩:∃st,(if f.rule.fin=2 then f.stripe else 0)=st:=⟨_,rfl⟩
  obtain⟨ver,hver⟩:∃ver,(if f.rule.fin=2 then f.lock.ver else 0)=ver:=⟨_,rfl⟩
  obtain⟨wd,hwd⟩:∃wd,(if f.rule.fin=2 then f.word else 0)=wd:=⟨_,rfl⟩
  obtain⟨⟨ee,l⟩,hrd⟩:∃r,rdAdd x.reads (st,ver)=r:=⟨_,rfl⟩;have hwu:U64 wd:=by
   rw[←hwd];split
   ·exact hu
   ·exact U64.zero
  have hseen:(if f.rule.fin=2 then(f.stripe,f.lock.ver) else(0,0))=(st,ver):=by rw[←hst,←hver];split<;>rfl
  have hl16:l.length≤1000:=by
   have:l=(rdAdd x.reads (st,ver)).2:=by rw[hrd]
   rw[this];unfold rdAdd;split
   ·simp only;omega
   ·split
    ·simp only;omega
    ·split
     ·simp only;omega
     ·simp;omega
  have hW:x.fetched s f=if ee=0 then PAt.work {x with reads:=l,v:=(x.v.know x.v.need wd).2} s else if ee=14 then PAt.out {x with reads:=l} 5 0 (-1) else PAt.out {x with reads:=l} 4 ee (-1):=by
   unfold PAt.fetched;rw[if_neg h6,hseen,hwd];simp only[hrd]
  have d6:((f.rule.fin:Int)==6)=false:=by simp;omega
  have HSEEN:Hid (∀q,Calls prog 196 #[.pointer g] (w.drewN q) fun e w'=>e=.returned (.agg #[st,υ ver])∧Sat ω w' (atX b s x D*F)):=h_ (fun q=>by
   refine(Ns (w.drewN q) g f (hFE _ x hi (hx.drewN q))).mono ?_;rintro e w1 ⟨rfl,ho⟩;rw[hst,hver];exact⟨rfl,(hx.drewN q).nob ho⟩)
  have HADD:Hid (∀w1,Sat ω w1 (atX b s x D*F)→Calls prog 195 #[.pointer D.db,.agg #[st,υ ver]] w1 fun e w'=>e=.returned ee∧Sat ω w' (atX b s {x with reads:=l} D*F)):=h_ (fun w1 h1=>by
   obtain⟨G,h2,h3⟩:=MB h1;refine(Te ω w1 G D.db x.reads h2 hr st ver).mono ?_;rintro e w2 ⟨rfl,h4⟩;rw[hrd] at h4 ⊢;exact⟨rfl,(h3 w2 emp l h4.emp_).perm (AD _)⟩)
  have HS0:FeS b s x.me x.stamp D g w.drew:=hdr w (hSS w x rfl rfl hx);have HSX:Hid (∀w1,Sat ω w1 (atX b s x D*F)→FeS b s x.me x.stamp D g w1):=h_ (fun w1 h1=>hSS w1 x rfl rfl h1)
  have HS1:Hid (∀w1,Sat ω w1 (atX b s {x with reads:=l} D*F)→FeS b s x.me x.stamp D g w1):=h_ (fun w1 h1=>hSS w1 {x with reads:=l} rfl rfl h1)
  by_cases h0:ee=0
  ·subst h0;rw[if_pos rfl] at hW;have HNEED:Hid (∀w1,Sat ω w1 (atX b s {x with reads:=l} D*F)→Calls prog 130 #[.pointer D.vb] w1 fun e w'=>e=.returned x.v.need∧w'=w1):=h_ (fun w1 h1=>by
    obtain⟨G,h2,_⟩:=Dq h1;exact GN ω w1 G D.vb x.v h2)
   have HWORD:Hid (∀w1,Sat ω w1 (atX b s {x with reads:=l} D*F)→Calls prog 198 #[.pointer g] w1 fun e w'=>e=.returned (υ wd)∧w'=w1):=h_ (fun w1 h1=>by
    have:=Nr w1 g f (hFE w1 {x with reads:=l} hi h1)
    rw[hwd] at this;exact this)
   have HKNOW:Hid (∀w1,Sat ω w1 (atX b s {x with reads:=l} D*F)→Calls prog 197 #[.pointer D.vb,x.v.need,υ wd] w1 fun e w'=>e=.returned (.int .i64 ((x.v.know x.v.need wd).1:Int))∧Sat ω w' (atX b s {x with reads:=l,v:=(x.v.know x.v.need wd).2} D*F)):=h_ (fun w1 h1=>by
    obtain⟨G,h2,h3⟩:=Dq h1;refine(Rc ω w1 G D.vb x.v h2 hvok x.v.need wd).mono ?_;rintro e w2 ⟨rfl,h4⟩;exact⟨rfl,(h3 w2 emp _ h4.emp_).perm (AD _)⟩)
   have HWORK:Hid (∀w1,Sat ω w1 (atX b s {x with reads:=l,v:=(x.v.know x.v.need wd).2} D*F)→FeS b s x.me x.stamp D g w1∧Calls prog 93 #[.pointer b] w1 (Rets ω F (.tuple #[]) (atH b s (x.fetched s f)))):=h_ (fun w1 h1=>by
    refine⟨hSS w1 {x with reads:=l,v:=(x.v.know x.v.need wd).2} rfl rfl h1,?_⟩
    rw[hW];exact MA ω w1 F b s _ (AY h1) dep (hf.know hwu) hfin hn hl16 hs)
   have HDR:=h_ hdr;generalize ({x with reads:=l,v:=(x.v.know x.v.need wd).2}:PAt)=X2 at *
   generalize ({x with reads:=l}:PAt)=X1 at *
   generalize x.v.know x.v.need wd=kn at *
   generalize x.v.need=need at *
   generalize x.me=me at *
   generalize x.stamp=stamp at *
   generalize f.rule.fin=ff at *
   clear h hx k1 k2 k3 k4 e1 e2 hFE hSS hdr hi hf hfin hr hs hu hn hvok h6 hW hst hver hwd hrd hwu hseen hl16;go_enter func165,ntmps165;go_wp2_with (go_at_call 194;refine(HEND.o).mono ?_;rintro e w1 ⟨rfl,rfl⟩);refine gN (FeS b s me stamp D g) HS0 fun hh0=>?_
   refine tH 0 ?_ rfl ?_ (tH 1 ?_ rfl ?_ (tH 2 ?_ rfl ?_ (tH 3 ?_ rfl ?_ (tH 4 ?_ rfl ?_ (tH 5 ?_ rfl ?_ (tH 6 ?_ rfl ?_ (tH 7 ?_ rfl ?_ ?_)))))));all_goals (try (
    intro w hSw;have d13:=hSw.1.c13;have d12:=hSw.1.c12;have d16:=hSw.2;have dl:=hSw.1.lt;try simp only[sP]
    go_simp<;>(try with_reducible rfl)))
   try simp only[sP]
   refine oH 8 rfl fun K hK=>?_
   go_simp;go_at_call 196;refine(HSEEN.o _).mono ?_;rintro e wA ⟨rfl,hs⟩;have HX:=h_ hs;clear hs;(try go_wp2_with fail);refine hK.q ?_ fun hh1=>?_
   ·exact HSX.o _ HX.o
   clear hK K hh0;try simp only[sP]
   refine oH 9 rfl fun K hK=>?_
   go_simp;go_at_call 195;refine(HADD.o _ HX.o).mono ?_;rintro e wB ⟨rfl,hs⟩;have HY:=h_ hs;clear hs;(try go_wp2_with fail);refine hK.q ?_ fun hh2=>?_
   ·exact HS1.o _ HY.o
   clear hK K hh1;try simp only[sP]
   refine tH 10 ?_ rfl ?_ ?_;all_goals (try (
    intro w hSw;have d13:=hSw.1.c13;have d12:=hSw.1.c12;have d16:=hSw.2;have dl:=hSw.1.lt;go_simp<;>(try with_reducible rfl)))
   try simp only[sP]
   refine dN ?_;go_wp2;refine wp_region_noPanic ?_;refine wp_region_held_drew (S:=FeS b s me stamp D g) (by kernel_rfl) (HDR.o _ (HS1.o _ HY.o)) (fun hh0=>?_)
   refine tH 0 ?_ rfl ?_ (tH 1 ?_ rfl ?_ (tH 2 ?_ rfl ?_ (tH 3 ?_ rfl ?_ (tH 4 ?_ rfl ?_ (tH 5 ?_ rfl ?_ (tH 6 ?_ rfl ?_ (tH 7 ?_ rfl ?_ (tH 9 ?_ rfl ?_ (tH 10 ?_ rfl ?_ (tH 11 ?_ rfl ?_ (tH 12 ?_ rfl ?_ ?_)))))))))));all_goals (try (
    intro w hSw;have d13:=hSw.1.c13;have d12:=hSw.1.c12;have d16:=hSw.2;have dl:=hSw.1.lt;try simp only[sP]
    go_simp<;>(try with_reducible rfl)))
   try simp only[sP]
   refine oH 8 rfl fun K hK=>?_
   go_simp;go_at_call 130;refine(HNEED.o _ (HY.o.drewN _)).mono ?_;rintro e wC ⟨rfl,rfl⟩;(try go_wp2_with fail);refine hK.q ?_ fun hh1=>?_
   ·exact HDR.o _ (HS1.o _ HY.o)
   clear hK K hh0;try simp only[sP]
   refine oH 13 rfl fun K hK=>?_
   go_simp;go_at_call 198;refine(HWORD.o _ (HY.o.drewN _)).mono ?_;rintro e wC ⟨rfl,rfl⟩;(try go_wp2_with fail);refine hK.q ?_ fun hh2=>?_
   ·exact HDR.o _ (HS1.o _ HY.o)
   clear hK K hh1;try simp only[sP]
   refine oH 14 rfl fun K hK=>?_
   go_simp;go_at_call 197;refine(HKNOW.o _ (HY.o.drewN _)).mono ?_;rintro e wC ⟨rfl,hs⟩;have hq:=HWORK.o _ hs;have HQ1:=h_ hq.1;have HQ2:=h_ hq.2;clear hs hq;(try go_wp2_with fail);refine hK.q ?_ fun hh3=>?_
   ·exact HQ1.o
   clear hK K hh2;try simp only[sP]
   refine dN ?_;go_wp2_with (go_at_call 93;refine(HQ2.o).mono ?_;rintro e w5 ⟨rfl,hs⟩;have HZ:=h_ hs;clear hs);exact bodyPost_end (results_none rfl _ _ _) rfl ⟨rfl,HZ.o⟩
  ·rw[if_neg h0] at hW;have d0:((ee:Int)==0)=false:=by simp;omega
   by_cases h14:ee=14
   ·subst h14;rw[if_pos rfl] at hW;have HOUT:Hid (∀w1,Sat ω w1 (atX b s {x with reads:=l} D*F)→Calls prog 92 #[.pointer b,ι 5,ι 0,ι (-1)] w1 (Rets ω F (.tuple #[]) (atH b s (x.fetched s f)))):=h_ (fun w1 h1=>by
     rw[hW];exact Bk ω w1 F b s _ (AY h1) 5 0 (-1))
    generalize ({x with reads:=l}:PAt)=X1 at *
    generalize x.me=me at *
    generalize x.stamp=stamp at *
    generalize f.rule.fin=ff at *
    clear h hx k1 k2 k3 k4 e1 e2 hFE hSS hdr hi hf hfin hr hs hu hn hvok h6 hW hst hver hwd hrd hwu hseen hl16;go_enter func165,ntmps165;go_wp2_with (go_at_call 194;refine(HEND.o).mono ?_;rintro e w1 ⟨rfl,rfl⟩);refine gN (FeS b s me stamp D g) HS0 fun hh0=>?_
    refine tH 0 ?_ rfl ?_ (tH 1 ?_ rfl ?_ (tH 2 ?_ rfl ?_ (tH 3 ?_ rfl ?_ (tH 4 ?_ rfl ?_ (tH 5 ?_ rfl ?_ (tH 6 ?_ rfl ?_ (tH 7 ?_ rfl ?_ ?_)))))));all_goals (try (
     intro w hSw;have d13:=hSw.1.c13;have d12:=hSw.1.c12;have d16:=hSw.2;have dl:=hSw.1.lt;try simp only[sP]
     go_simp<;>(try with_reducible rfl)))
    try simp only[sP]
    refine oH 8 rfl fun K hK=>?_
    go_simp;go_at_call 196;refine(HSEEN.o _).mono ?_;rintro e wA ⟨rfl,hs⟩;have HX:=h_ hs;clear hs;(try go_wp2_with fail);refine hK.q ?_ fun hh1=>?_
    ·exact HSX.o _ HX.o
    clear hK K hh0;try simp only[sP]
    refine oH 9 rfl fun K hK=>?_
    go_simp;go_at_call 195;refine(HADD.o _ HX.o).mono ?_;rintro e wB ⟨rfl,hs⟩;have HY:=h_ hs;clear hs;(try go_wp2_with fail);refine hK.q ?_ fun hh2=>?_
    ·exact HS1.o _ HY.o
    clear hK K hh1;try simp only[sP]
    refine tH 10 ?_ rfl ?_ ?_;all_goals (try (
     intro w hSw;have d13:=hSw.1.c13;have d12:=hSw.1.c12;have d16:=hSw.2;have dl:=hSw.1.lt;go_simp<;>(try with_reducible rfl)))
    try simp only[sP]
    refine dN ?_;go_wp2_with (go_at_call 92;refine(HOUT.o _ HY.o).mono ?_;rintro e w5 ⟨rfl,hs⟩;have HZ:=h_ hs;clear hs);exact bodyPost_end (results_none rfl _ _ _) rfl ⟨rfl,HZ.o⟩
   ·rw[if_neg h14] at hW;have d14:((ee:Int)==14)=false:=by simp;omega
    have HOUT:Hid (∀w1,Sat ω w1 (atX b s {x with reads:=l} D*F)→Calls prog 92 #[.pointer b,ι 4,ee,ι (-1)] w1 (Rets ω F (.tuple #[]) (atH b s (x.fetched s f)))):=h_ (fun w1 h1=>by
     rw[hW];exact Bk ω w1 F b s _ (AY h1) 4 ee (-1))
    generalize ({x with reads:=l}:PAt)=X1 at *
    generalize x.me=me at *
    generalize x.stamp=stamp at *
    generalize f.rule.fin=ff at *
    clear h hx k1 k2 k3 k4 e1 e2 hFE hSS hdr hi hf hfin hr hs hu hn hvok h6 hW hst hver hwd hrd hwu hseen hl16 h0 h14;go_enter func165,ntmps165;go_wp2_with (go_at_call 194;refine(HEND.o).mono ?_;rintro e w1 ⟨rfl,rfl⟩);refine gN (FeS b s me stamp D g) HS0 fun hh0=>?_
    refine tH 0 ?_ rfl ?_ (tH 1 ?_ rfl ?_ (tH 2 ?_ rfl ?_ (tH 3 ?_ rfl ?_ (tH 4 ?_ rfl ?_ (tH 5 ?_ rfl ?_ (tH 6 ?_ rfl ?_ (tH 7 ?_ rfl ?_ ?_)))))));all_goals (try (
     intro w hSw;have d13:=hSw.1.c13;have d12:=hSw.1.c12;have d16:=hSw.2;have dl:=hSw.1.lt;try simp only[sP]
     go_simp<;>(try with_reducible rfl)))
    try simp only[sP]
    refine oH 8 rfl fun K hK=>?_
    go_simp;go_at_call 196;refine(HSEEN.o _).mono ?_;rintro e wA ⟨rfl,hs⟩;have HX:=h_ hs;clear hs;(try go_wp2_with fail);refine hK.q ?_ fun hh1=>?_
    ·exact HSX.o _ HX.o
    clear hK K hh0;try simp only[sP]
    refine oH 9 rfl fun K hK=>?_
    go_simp;go_at_call 195;refine(HADD.o _ HX.o).mono ?_;rintro e wB ⟨rfl,hs⟩;have HY:=h_ hs;clear hs;(try go_wp2_with fail);refine hK.q ?_ fun hh2=>?_
    ·exact HS1.o _ HY.o
    clear hK K hh1;try simp only[sP]
    refine tH 10 ?_ rfl ?_ ?_;all_goals (try (
     intro w hSw;have d13:=hSw.1.c13;have d12:=hSw.1.c12;have d16:=hSw.2;have dl:=hSw.1.lt;go_simp<;>(try with_reducible rfl)))
    try simp only[sP]
    refine dN ?_;go_wp2_with (go_at_call 92;refine(HOUT.o _ HY.o).mono ?_;rintro e w5 ⟨rfl,hs⟩;have HZ:=h_ hs;clear hs);exact bodyPost_end (results_none rfl _ _ _) rfl ⟨rfl,HZ.o⟩
section
variable (ω w : World) (F : HP)
theorem CO (s:PSt)(x:PAt)(D:AtD)(v:Nat):(atC s x D).setIfInBounds 21 (.int .u64 v)=atC s {x with stamp:=v} D:=rfl
theorem MF {ω w:World}{F:HP}{b:Nat}{s:PSt}{x:PAt}{D:AtD}{e:PEx}(h:Sat ω w (atX b s x D*F))(hi:x.inner=.extend e):∃g A c,D.inn=.iface 195 (.pointer (some ⟨g,0,none⟩))∧D.ep=.pointer g∧Blk w g 285 (exC e A c):=by
 obtain⟨G,j1,_⟩:=AF h;rw[hi] at j1;obtain⟨g,e1,e2,j3,_⟩:=DT j1;obtain⟨A,c,j4⟩:=CM j3;exact⟨g,A,c,e1,e2,j4.assoc.blk⟩
theorem OH (b:Nat)(s:PSt)(x:PAt)(h:Sat ω w (atH b s x*F))(hk:x.state=3)(f:PFe)(hi:x.inner=.fetch f)(dep:Nat→Nat)(hf:ItFine dep x.run x.v)(hfin:Fin4 x.run.fin)(hr:x.reads.length≤16)(hs:s.fit)(hu:U64 f.word):
  Calls prog 135 #[.pointer b] w (Rets ω F (.tuple #[]) (atH b s (x.ended s))):=by
 have hW:x.ended s=x.fetched s f:=by unfold PAt.ended;rw[hi]
 rw[hW];have HF:=h_ (LC ω w F b s x h f hi dep hf hfin hr hs hu);obtain⟨D,hx⟩:=AC h;have hb:=AA hx;have c14:w.cell? (κ b 14)=some (.int .i64 3):=by have:=hb.cell 14;rw[this];show some (Value.int .i64 x.state)=_;rw[hk];rfl
 have lt:=hb.lt;clear h hx hb hk hi hf hfin hr hs hu hW;go_enter func135,ntmps135;go_wp2_with (go_at_call 165;refine(HF.o).mono ?_;rintro e w1 ⟨rfl,hs⟩;have HZ:=h_ hs;clear hs);exact bodyPost_end (results_none rfl _ _ _) rfl ⟨rfl,HZ.o⟩
theorem OG (b:Nat)(s:PSt)(x:PAt)(h:Sat ω w (atH b s x*F))(hk:x.state=4)(e:PEx)(hi:x.inner=.extend e)(hs:s.fit)(hn:x.v.need≤1000000):
  Calls prog 135 #[.pointer b] w (Rets ω F (.tuple #[]) (atH b s (x.ended s))):=by
 obtain⟨sp,hsp⟩:∃sp,(if e.rule.fin=2 then e.stamp else 0)=sp:=⟨_,rfl⟩
 have hW:x.ended s=PAt.ask {x with stamp:=sp} s x.v.need:=by unfold PAt.ended;rw[hi];simp only[hsp];rw[if_pos hk]
 rw[hW];obtain⟨D,hx⟩:=AC h;have hb:=AA hx;obtain⟨g,A,c,e1,e2,hg⟩:=MF hx hi;have c14:w.cell? (κ b 14)=some (.int .i64 4):=by have:=hb.cell 14;rw[this];show some (Value.int .i64 x.state)=_;rw[hk];rfl
 have c17:w.cell? (κ b 17)=some (.pointer g):=by have:=hb.cell 17;rw[this];show some D.ep=_;rw[e2]
 have c21:=hb.c 21;have c12:w.cell? (κ b 12)=some (.pointer D.vb):=hb.cell 12;have lt:=hb.lt;have fz:=hb.frozen;have HST:Hid (Calls prog 166 #[.pointer g] w fun e w'=>e=.returned (υ sp)∧w'=w):=h_ (hsp▸FA w g e A c hg)
 have HS:Hid (Sat ω (w.setCell (κ b 21) (υ sp)) (atH b s {x with stamp:=sp}*F)):=h_ (Bj h 21 _ (fun D=>CO s x D sp) rfl rfl rfl rfl)
 have HN:Hid (Calls prog 130 #[.pointer (some ⟨D.vb,0,none⟩)] (w.setCell (κ b 21) (υ sp)) fun e w'=>e=.returned x.v.need∧w'=(w.setCell (κ b 21) (υ sp))):=h_ (by
  have h9:Sat ω (w.setCell (κ b 21) (υ sp)) (atX b s {x with stamp:=sp} D*F):=by
   unfold atX at hx ⊢;exact(hx.assoc.put 21 _ (CO s x D sp)).assoc'
  obtain⟨G,h2,_⟩:=Dq h9;exact GN ω _ G D.vb x.v h2)
 have HA:Hid (Calls prog 129 #[.pointer b,x.v.need] (w.setCell (κ b 21) (υ sp)) (Rets ω F (.tuple #[]) (atH b s (PAt.ask {x with stamp:=sp} s x.v.need)))):=h_ (RM ω _ F b s {x with stamp:=sp} HS.o x.v.need hn (by rw[show({x with stamp:=sp}:PAt).inner=x.inner from rfl,hi];simp) hs.s1 hs.s2 hs.w1 hs.w2)
 generalize PAt.ask {x with stamp:=sp} s x.v.need=Z at *
 generalize x.v.need=need at *
 generalize x.stamp=stamp at *
 generalize D.vb=vb at *
 clear h hx hb hk hi hs hn hW HS hg e1 e2 hsp;go_enter func135,ntmps135;go_wp2_with (first
  |(go_at_call 166;refine(HST.o).mono ?_;rintro e w1 ⟨rfl,rfl⟩)
  |(go_at_call 130;refine(HN.o).mono ?_;rintro e w1 ⟨rfl,rfl⟩)
  |(go_at_call 129;refine(HA.o).mono ?_;rintro e w1 ⟨rfl,hs⟩;have HZ:=h_ hs;clear hs))
 exact bodyPost_end (results_none rfl _ _ _) rfl ⟨rfl,HZ.o⟩
theorem OE (b:Nat)(s:PSt)(x:PAt)(h:Sat ω w (atH b s x*F))(hk:x.state=5)(e:PEx)(hi:x.inner=.extend e):
  Calls prog 135 #[.pointer b] w (Rets ω F (.tuple #[]) (atH b s (x.ended s))):=by
 obtain⟨sp,hsp⟩:∃sp,(if e.rule.fin=2 then e.stamp else 0)=sp:=⟨_,rfl⟩
 have hW:x.ended s=PAt.out {x with stamp:=sp} 3 0 (-1):=by unfold PAt.ended;rw[hi];simp only[hsp];rw[if_neg (by omega)]
 rw[hW];obtain⟨D,hx⟩:=AC h;have hb:=AA hx;obtain⟨g,A,c,e1,e2,hg⟩:=MF hx hi;have c14:w.cell? (κ b 14)=some (.int .i64 5):=by have:=hb.cell 14;rw[this];show some (Value.int .i64 x.state)=_;rw[hk];rfl
 have c17:w.cell? (κ b 17)=some (.pointer g):=by have:=hb.cell 17;rw[this];show some D.ep=_;rw[e2]
 have c21:=hb.c 21;have lt:=hb.lt;have fz:=hb.frozen;have HST:Hid (Calls prog 166 #[.pointer g] w fun e w'=>e=.returned (υ sp)∧w'=w):=h_ (hsp▸FA w g e A c hg)
 have HS:Hid (Sat ω (w.setCell (κ b 21) (υ sp)) (atH b s {x with stamp:=sp}*F)):=h_ (Bj h 21 _ (fun D=>CO s x D sp) rfl rfl rfl rfl)
 have HA:Hid (Calls prog 92 #[.pointer b,ι 3,ι 0,ι (-1)] (w.setCell (κ b 21) (υ sp)) (Rets ω F (.tuple #[]) (atH b s (PAt.out {x with stamp:=sp} 3 0 (-1))))):=h_ (Bk ω _ F b s {x with stamp:=sp} HS.o 3 0 (-1))
 generalize PAt.out {x with stamp:=sp} 3 0 (-1)=Z at *
 generalize x.stamp=stamp at *
 clear h hx hb hk hi hW HS hg e1 e2 hsp;go_enter func135,ntmps135;go_wp2_with (first
  |(go_at_call 166;refine(HST.o).mono ?_;rintro e w1 ⟨rfl,rfl⟩)
  |(go_at_call 92;refine(HA.o).mono ?_;rintro e w1 ⟨rfl,hs⟩;have HZ:=h_ hs;clear hs))
 exact bodyPost_end (results_none rfl _ _ _) rfl ⟨rfl,HZ.o⟩
theorem TA (b:Nat)(s:PSt)(x:PAt)(D:AtD)(hx:Sat ω w (atX b s x D*F))(f e:Nat)(by_:Int):
  Calls prog 92 #[.pointer b,f,e,by_] w (Rets ω F (.tuple #[]) (atX b s (x.out f e by_) D)):=by
 have hb:=AA hx;have lt:=hb.lt;have fz:=hb.frozen;have c1:=hb.c 22;have c2:=hb.c 24;have c3:=hb.c 23;have c4:=hb.c 14;have HS:Hid (Sat ω ((((w.setCell (κ b 22) f).setCell (κ b 24) e).setCell (κ b 23) by_).setCell (κ b 14) (ι 7)) (atX b s (x.out f e by_) D*F)):=h_ (by
  unfold atX at hx;exact((((hx.assoc.set 22 _).set 24 _).set 23 _).put 14 _ (MG s x D f e by_)).assoc')
 generalize (x.fin:Int)=k1 at *
 generalize (x.err:Int)=k2 at *
 generalize x.by_=k3 at *
 generalize (x.state:Int)=k4 at *
 clear hx hb;go_enter func92,ntmps92;go_wp2;exact bodyPost_end (results_none rfl _ _ _) rfl ⟨rfl,HS.o⟩
def CoS (b:Nat)(g:Nat)(w:World):Prop:=w.cell? (κ b 18)=some (.pointer g)∧b<w.heap.size
theorem OD (b:Nat)(s:PSt)(x:PAt)(h:Sat ω w (atH b s x*F))(hk:x.state=6)(c:PCo)(hi:x.inner=.commit c):
  Calls prog 135 #[.pointer b] w (Rets ω F (.tuple #[]) (atH b s (x.ended s))):=by
 have hW:x.ended s=x.out c.rule.fin c.rule.err (-1):=by unfold PAt.ended;rw[hi]
 rw[hW];obtain⟨D,hx⟩:=AC h;have hb:=AA hx;obtain⟨G,j1,_⟩:=AF hx;rw[hi] at j1;obtain⟨g,e1,e2,j3,_⟩:=DU j1;obtain⟨CD,hg⟩:=FG j3;have c14:w.cell? (κ b 14)=some (.int .i64 6):=by have:=hb.cell 14;rw[this];show some (Value.int .i64 x.state)=_;rw[hk];rfl
 have c18:w.cell? (κ b 18)=some (.pointer g):=by have:=hb.cell 18;rw[this];show some D.cp=_;rw[e2]
 have lt:=hb.lt;have HS0:CoS b g w.drew:=⟨c18,lt⟩;have HE:Hid (∀q,Calls prog 145 #[.pointer g] (w.drewN q) fun e w'=>e=.returned c.rule.fin∧w'=w.drewN q):=h_ (fun q=>Ba _ g c CD hg)
 have HR:Hid (∀q,Calls prog 167 #[.pointer g] (w.drewN q) fun e w'=>e=.returned c.rule.err∧w'=w.drewN q):=h_ (fun q=>Qe _ g c CD hg)
 have HO:Hid (∀q,Calls prog 92 #[.pointer b,c.rule.fin,c.rule.err,ι (-1)] (w.drewN q) fun e w'=>(e=.returned (.tuple #[])∧Sat ω w' (atH b s (x.out c.rule.fin c.rule.err (-1))*F))∧CoS b g w'):=h_ (fun q=>by
  refine(TA ω _ F b s x D (hx.drewN q) c.rule.fin c.rule.err (-1)).mono ?_;rintro e w1 ⟨rfl,h9⟩;refine⟨⟨rfl,AY h9⟩,?_⟩;have hb9:=AA h9;refine⟨?_,hb9.lt⟩
  have:=hb9.cell 18
  rw[this];show some D.cp=_
  rw[e2])
 generalize x.out c.rule.fin c.rule.err (-1)=Z at *
 generalize c.rule.fin=cf at *
 generalize c.rule.err=ce at *
 clear h hx hb hk hi hW j1 j3 hg e1 e2;go_enter func135,ntmps135;go_wp2;refine gN (CoS b g) HS0 fun hh0=>?_
 refine tH 0 ?_ rfl ?_ (tH 1 ?_ rfl ?_ (tH 2 ?_ rfl ?_ (tH 3 ?_ rfl ?_ (tH 4 ?_ rfl ?_ (tH 6 ?_ rfl ?_ (tH 7 ?_ rfl ?_ (tH 8 ?_ rfl ?_ (tH 9 ?_ rfl ?_ ?_))))))));all_goals (try (
  intro w hSw;have d18:=hSw.1;have dl:=hSw.2;try simp only[sP]
  go_simp<;>(try with_reducible rfl)))
 try simp only[sP]
 refine oH 5 rfl fun K hK=>?_
 go_simp;go_at_call 145;refine(HE.o _).mono ?_;rintro e wA ⟨rfl,rfl⟩;(try go_wp2_with fail);refine hK.q ?_ fun hh1=>?_
 ·exact HS0
 clear hK K hh0;try simp only[sP]
 refine oH 10 rfl fun K hK=>?_
 go_simp;go_at_call 167;refine(HR.o _).mono ?_;rintro e wA ⟨rfl,rfl⟩;(try go_wp2_with fail);refine hK.q ?_ fun hh2=>?_
 ·exact HS0
 clear hK K hh1;try simp only[sP]
 refine oH 11 rfl fun K hK=>?_
 go_simp;go_at_call 92;refine(HO.o _).mono ?_;rintro e wA ⟨⟨rfl,hs⟩,hq⟩;have HZ:=h_ hs;clear hs;(try go_wp2_with fail);refine hK.q ?_ fun hh3=>?_
 ·exact hq
 clear hK K hh2;try simp only[sP]
 refine dN ?_;go_wp2;exact bodyPost_end (results_none rfl _ _ _) rfl ⟨rfl,HZ.o⟩
end
section
variable (ω w : World) (F : HP)
def stampT (y:PAt):PAt:=if y.writing then {y with stamp:=match y.inner with | .commit c=>c.stampOf|_=>0} else y
theorem BD (x:PAt)(s:PSt):x.told s=stampT (if x.inner.rule.fin=0 then x else if x.inner.rule.fin=5 then x.out 5 0 x.inner.rule.by_ else x.ended s):=rfl
structure ToT (ω w:World) (F:HP) (b:Nat) (s:PSt) (y:PAt) (g:Nat) (sp:Nat):Prop where
 c18:w.cell? (κ b 18)=some (.pointer g)
 c21:∃u,w.cell? (κ b 21)=some u
 fz:w.frozen? (κ b 21)=false
 lt:b<w.heap.size
 st:Calls prog 136 #[.pointer g] w fun e w'=>e=.returned (υ sp)∧w'=w
 sat:Sat ω (w.setCell (κ b 21) (υ sp)) (atH b s (stampT y)*F)
theorem Bf {ω w:World}{F:HP}{b:Nat}{s:PSt}{y:PAt}(h:Sat ω w (atH b s y*F))(hw:y.writing=true)(hn:∀c,y.inner=.commit c→c.now≤4611686018427387904):∃g sp,ToT ω w F b s y g sp:=by
 obtain⟨D,hx⟩:=AC h;rcases ME hx with⟨c,cb,CD,hi,hcp,hcb⟩|⟨hno,_⟩
 ·have hb:=AA hx;refine⟨cb,c.stampOf,?_,⟨_,hb.cell 21⟩,hb.frozen 21,hb.lt,Kp w cb c CD hcb (hn c hi),?_⟩
  ·have:=hb.cell 18
   rw[this];show some D.cp=_
   rw[hcp];rfl
  ·have e:stampT y={y with stamp:=c.stampOf}:=by unfold stampT;rw[if_pos hw,hi]
   rw[e];exact Bj h 21 _ (fun D=>CO s y D c.stampOf) rfl rfl rfl rfl
 ·rw[EG hno] at hw;cases hw
theorem Kv (b:Nat)(s:PSt)(x:PAt)(h:Sat ω w (atH b s x*F))(f:PFe)(hi:x.inner=.fetch f)(hf:f.rule.fin=0)(hn:∀c,(x.told s).inner=.commit c→c.now≤4611686018427387904):
  Calls prog 94 #[.pointer b] w (Rets ω F (.tuple #[]) (atH b s (x.told s))):=by
 have hT:x.told s=stampT x:=by
  rw[BD,hi];show stampT (if f.rule.fin=0 then x else if f.rule.fin=5 then x.out 5 0 f.rule.by_ else x.ended s)=_
  rw[if_pos hf]
 have hi2:(stampT x).inner=(x:PAt).inner:=by unfold stampT;split<;>rfl
 rw[hT] at hn ⊢;rw[hi2] at hn;obtain⟨D,hx⟩:=AC h;have hb:=AA hx;obtain⟨G,j1,_⟩:=AF hx;rw[hi] at j1;obtain⟨g,e1,e2,j3,_⟩:=Ci j1;have hg:=j3.blk;have c15:w.cell? (κ b 15)=some (.iface 194 (.pointer g)):=by have:=hb.cell 15;rw[this];show some D.inn=_;rw[e1]
 have lt:=hb.lt;have HE:=h_ (BZ w g f hg);have HB:=h_ (Gl w g f hg);have HY:Hid (Sat ω w (atH b s x*F)):=h_ h;rw[hf] at HE;have q1:True:=trivial;obtain⟨y,hy⟩:∃y,x=y:=⟨_,rfl⟩;rw[hy] at hn HY ⊢;have HW:Hid (∀w1,Sat ω w1 (atH b s y*F)→Calls prog 108 #[.pointer b] w1 fun e w'=>e=.returned (.bool y.writing)∧w'=w1):=h_ (fun w1 h1=>AO ω w1 F b s y h1)
 have hm:=Ei;have hm2:=Gb;cases hwr:y.writing
 ·have hst:stampT y=y:=by unfold stampT;rw[if_neg (by simp[hwr])]
  rw[hst];rw[hwr] at HW;generalize f.rule.fin=ff at *
  generalize f.rule.by_=fb at *
  clear h hx hb j1 j3 hg e1 e2 hi hT hi2 hy hf hwr hst hn;go_enter func94,ntmps94;go_wp2_with (first
   |(go_at_call 194;refine(HE.o).mono ?_;rintro e w1 ⟨rfl,rfl⟩)
   |(go_at_call 108;refine(HW.o _ HY.o).mono ?_;rintro e w2 ⟨rfl,rfl⟩))
  exact bodyPost_end (results_none rfl _ _ _) rfl ⟨rfl,HY.o⟩
 ·have HTT:Hid (∀w1,Sat ω w1 (atH b s y*F)→∃g sp,ToT ω w1 F b s y g sp):=h_ (fun w1 h1=>Bf h1 hwr hn)
  rw[hwr] at HW;generalize f.rule.fin=ff at *
  generalize f.rule.by_=fb at *
  clear h hx hb j1 j3 hg e1 e2 hi hT hi2 hy hf hwr hn;go_enter func94,ntmps94;go_wp2_with (first
   |(go_at_call 194;refine(HE.o).mono ?_;rintro e w1 ⟨rfl,rfl⟩)
   |(go_at_call 108;refine(HW.o _ HY.o).mono ?_;rintro e w2 ⟨rfl,rfl⟩;obtain⟨g9,sp,z1,⟨u9,z2⟩,z3,z4,z5,z6⟩:=HTT.o _ HY.o;have Z5:=h_ z5;have Z6:=h_ z6;clear z5 z6)
   |(go_at_call 136;refine(Z5.out).mono ?_;rintro e w3 ⟨rfl,rfl⟩))
  exact bodyPost_end (results_none rfl _ _ _) rfl ⟨rfl,Z6.out⟩
theorem Ku (b:Nat)(s:PSt)(x:PAt)(h:Sat ω w (atH b s x*F))(f:PFe)(hi:x.inner=.fetch f)(hf:f.rule.fin=5)(hn:∀c,(x.told s).inner=.commit c→c.now≤4611686018427387904):
  Calls prog 94 #[.pointer b] w (Rets ω F (.tuple #[]) (atH b s (x.told s))):=by
 have hT:x.told s=stampT (x.out 5 0 f.rule.by_):=by
  rw[BD,hi];show stampT (if f.rule.fin=0 then x else if f.rule.fin=5 then x.out 5 0 f.rule.by_ else x.ended s)=_
  rw[if_neg (by omega),if_pos hf]
 have hi2:(stampT (x.out 5 0 f.rule.by_)).inner=((x.out 5 0 f.rule.by_):PAt).inner:=by unfold stampT;split<;>rfl
 rw[hT] at hn ⊢;rw[hi2] at hn;obtain⟨D,hx⟩:=AC h;have hb:=AA hx;obtain⟨G,j1,_⟩:=AF hx;rw[hi] at j1;obtain⟨g,e1,e2,j3,_⟩:=Ci j1;have hg:=j3.blk;have c15:w.cell? (κ b 15)=some (.iface 194 (.pointer g)):=by have:=hb.cell 15;rw[this];show some D.inn=_;rw[e1]
 have lt:=hb.lt;have HE:=h_ (BZ w g f hg);have HB:=h_ (Gl w g f hg);have HO:=h_ (Bk ω w F b s x h 5 0 f.rule.by_);rw[hf] at HE;obtain⟨y,hy⟩:∃y,(x.out 5 0 f.rule.by_)=y:=⟨_,rfl⟩;rw[hy] at hn HO ⊢;have HW:Hid (∀w1,Sat ω w1 (atH b s y*F)→Calls prog 108 #[.pointer b] w1 fun e w'=>e=.returned (.bool y.writing)∧w'=w1):=h_ (fun w1 h1=>AO ω w1 F b s y h1)
 have hm:=Ei;have hm2:=Gb;cases hwr:y.writing
 ·have hst:stampT y=y:=by unfold stampT;rw[if_neg (by simp[hwr])]
  rw[hst];rw[hwr] at HW;generalize f.rule.fin=ff at *
  generalize f.rule.by_=fb at *
  clear h hx hb j1 j3 hg e1 e2 hi hT hi2 hy hf hwr hst hn;go_enter func94,ntmps94;go_wp2_with (first
   |(go_at_call 194;refine(HE.o).mono ?_;rintro e w1 ⟨rfl,rfl⟩)
   |(go_at_call 387;refine(HB.o).mono ?_;rintro e w1 ⟨rfl,rfl⟩)
   |(go_at_call 92;refine(HO.o).mono ?_;rintro e w1 ⟨rfl,hs⟩;have HY:=h_ hs;clear hs)
   |(go_at_call 108;refine(HW.o _ HY.o).mono ?_;rintro e w2 ⟨rfl,rfl⟩))
  exact bodyPost_end (results_none rfl _ _ _) rfl ⟨rfl,HY.o⟩
 ·have HTT:Hid (∀w1,Sat ω w1 (atH b s y*F)→∃g sp,ToT ω w1 F b s y g sp):=h_ (fun w1 h1=>Bf h1 hwr hn)
  rw[hwr] at HW;generalize f.rule.fin=ff at *
  generalize f.rule.by_=fb at *
  clear h hx hb j1 j3 hg e1 e2 hi hT hi2 hy hf hwr hn;go_enter func94,ntmps94;go_wp2_with (first
   |(go_at_call 194;refine(HE.o).mono ?_;rintro e w1 ⟨rfl,rfl⟩)
   |(go_at_call 387;refine(HB.o).mono ?_;rintro e w1 ⟨rfl,rfl⟩)
   |(go_at_call 92;refine(HO.o).mono ?_;rintro e w1 ⟨rfl,hs⟩;have HY:=h_ hs;clear hs)
   |(go_at_call 108;refine(HW.o _ HY.o).mono ?_;rintro e w2 ⟨rfl,rfl⟩;obtain⟨g9,sp,z1,⟨u9,z2⟩,z3,z4,z5,z6⟩:=HTT.o _ HY.o;have Z5:=h_ z5;have Z6:=h_ z6;clear z5 z6)
   |(go_at_call 136;refine(Z5.out).mono ?_;rintro e w3 ⟨rfl,rfl⟩))
  exact bodyPost_end (results_none rfl _ _ _) rfl ⟨rfl,Z6.out⟩
theorem Kt (b:Nat)(s:PSt)(x:PAt)(h:Sat ω w (atH b s x*F))(f:PFe)(hi:x.inner=.fetch f)(hf0:f.rule.fin≠0)(hf5:f.rule.fin≠5)(hen:Calls prog 135 #[.pointer b] w (Rets ω F (.tuple #[]) (atH b s (x.ended s))))(hn:∀c,(x.told s).inner=.commit c→c.now≤4611686018427387904):
  Calls prog 94 #[.pointer b] w (Rets ω F (.tuple #[]) (atH b s (x.told s))):=by
 have hT:x.told s=stampT (x.ended s):=by
  rw[BD,hi];show stampT (if f.rule.fin=0 then x else if f.rule.fin=5 then x.out 5 0 f.rule.by_ else x.ended s)=_
  rw[if_neg hf0,if_neg hf5]
 have hi2:(stampT (x.ended s)).inner=((x.ended s):PAt).inner:=by unfold stampT;split<;>rfl
 rw[hT] at hn ⊢;rw[hi2] at hn;obtain⟨D,hx⟩:=AC h;have hb:=AA hx;obtain⟨G,j1,_⟩:=AF hx;rw[hi] at j1;obtain⟨g,e1,e2,j3,_⟩:=Ci j1;have hg:=j3.blk;have c15:w.cell? (κ b 15)=some (.iface 194 (.pointer g)):=by have:=hb.cell 15;rw[this];show some D.inn=_;rw[e1]
 have lt:=hb.lt;have HE:=h_ (BZ w g f hg);have HB:=h_ (Gl w g f hg);have HO:=h_ hen;have d0:((f.rule.fin:Int)==0)=false:=by simp;omega
 have d5:((f.rule.fin:Int)==5)=false:=by simp;omega
 obtain⟨y,hy⟩:∃y,(x.ended s)=y:=⟨_,rfl⟩;rw[hy] at hn HO ⊢;have HW:Hid (∀w1,Sat ω w1 (atH b s y*F)→Calls prog 108 #[.pointer b] w1 fun e w'=>e=.returned (.bool y.writing)∧w'=w1):=h_ (fun w1 h1=>AO ω w1 F b s y h1)
 have hm:=Ei;have hm2:=Gb;cases hwr:y.writing
 ·have hst:stampT y=y:=by unfold stampT;rw[if_neg (by simp[hwr])]
  rw[hst];rw[hwr] at HW;generalize f.rule.fin=ff at *
  generalize f.rule.by_=fb at *
  clear h hx hb j1 j3 hg e1 e2 hi hT hi2 hy hf0 hf5 hen hwr hst hn;go_enter func94,ntmps94;go_wp2_with (first
   |(go_at_call 194;refine(HE.o).mono ?_;rintro e w1 ⟨rfl,rfl⟩)
   |(go_at_call 135;refine(HO.o).mono ?_;rintro e w1 ⟨rfl,hs⟩;have HY:=h_ hs;clear hs)
   |(go_at_call 108;refine(HW.o _ HY.o).mono ?_;rintro e w2 ⟨rfl,rfl⟩))
  exact bodyPost_end (results_none rfl _ _ _) rfl ⟨rfl,HY.o⟩
 ·have HTT:Hid (∀w1,Sat ω w1 (atH b s y*F)→∃g sp,ToT ω w1 F b s y g sp):=h_ (fun w1 h1=>Bf h1 hwr hn)
  rw[hwr] at HW;generalize f.rule.fin=ff at *
  generalize f.rule.by_=fb at *
  clear h hx hb j1 j3 hg e1 e2 hi hT hi2 hy hf0 hf5 hen hwr hn;go_enter func94,ntmps94;go_wp2_with (first
   |(go_at_call 194;refine(HE.o).mono ?_;rintro e w1 ⟨rfl,rfl⟩)
   |(go_at_call 135;refine(HO.o).mono ?_;rintro e w1 ⟨rfl,hs⟩;have HY:=h_ hs;clear hs)
   |(go_at_call 108;refine(HW.o _ HY.o).mono ?_;rintro e w2 ⟨rfl,rfl⟩;obtain⟨g9,sp,z1,⟨u9,z2⟩,z3,z4,z5,z6⟩:=HTT.o _ HY.o;have Z5:=h_ z5;have Z6:=h_ z6;clear z5 z6)
   |(go_at_call 136;refine(Z5.out).mono ?_;rintro e w3 ⟨rfl,rfl⟩))
  exact bodyPost_end (results_none rfl _ _ _) rfl ⟨rfl,Z6.out⟩
theorem Kx (b:Nat)(s:PSt)(x:PAt)(h:Sat ω w (atH b s x*F))(f:PEx)(hi:x.inner=.extend f)(hf:f.rule.fin=0)(hn:∀c,(x.told s).inner=.commit c→c.now≤4611686018427387904):
  Calls prog 94 #[.pointer b] w (Rets ω F (.tuple #[]) (atH b s (x.told s))):=by
 have hT:x.told s=stampT x:=by
  rw[BD,hi];show stampT (if f.rule.fin=0 then x else if f.rule.fin=5 then x.out 5 0 f.rule.by_ else x.ended s)=_
  rw[if_pos hf]
 have hi2:(stampT x).inner=(x:PAt).inner:=by unfold stampT;split<;>rfl
 rw[hT] at hn ⊢;rw[hi2] at hn;obtain⟨D,hx⟩:=AC h;have hb:=AA hx;obtain⟨G,j1,_⟩:=AF hx;rw[hi] at j1;obtain⟨g,e1,e2,j3,_⟩:=DT j1;obtain⟨A,c,j4⟩:=CM j3;have hg:=j4.assoc.blk;have c15:w.cell? (κ b 15)=some (.iface 195 (.pointer g)):=by have:=hb.cell 15;rw[this];show some D.inn=_;rw[e1]
 have lt:=hb.lt;have HE:=h_ (Cy w g f A c hg);have HB:=h_ (Gm w g f A c hg);have HY:Hid (Sat ω w (atH b s x*F)):=h_ h;rw[hf] at HE;have q1:True:=trivial;obtain⟨y,hy⟩:∃y,x=y:=⟨_,rfl⟩;rw[hy] at hn HY ⊢;have HW:Hid (∀w1,Sat ω w1 (atH b s y*F)→Calls prog 108 #[.pointer b] w1 fun e w'=>e=.returned (.bool y.writing)∧w'=w1):=h_ (fun w1 h1=>AO ω w1 F b s y h1)
 have hm:=Ej;have hm2:=Gc;cases hwr:y.writing
 ·have hst:stampT y=y:=by unfold stampT;rw[if_neg (by simp[hwr])]
  rw[hst];rw[hwr] at HW;generalize f.rule.fin=ff at *
  generalize f.rule.by_=fb at *
  clear h hx hb j1 j3 j4 hg e1 e2 hi hT hi2 hy hf hwr hst hn;go_enter func94,ntmps94;go_wp2_with (first
   |(go_at_call 199;refine(HE.o).mono ?_;rintro e w1 ⟨rfl,rfl⟩)
   |(go_at_call 108;refine(HW.o _ HY.o).mono ?_;rintro e w2 ⟨rfl,rfl⟩))
  exact bodyPost_end (results_none rfl _ _ _) rfl ⟨rfl,HY.o⟩
 ·have HTT:Hid (∀w1,Sat ω w1 (atH b s y*F)→∃g sp,ToT ω w1 F b s y g sp):=h_ (fun w1 h1=>Bf h1 hwr hn)
  rw[hwr] at HW;generalize f.rule.fin=ff at *
  generalize f.rule.by_=fb at *
  clear h hx hb j1 j3 j4 hg e1 e2 hi hT hi2 hy hf hwr hn;go_enter func94,ntmps94;go_wp2_with (first
   |(go_at_call 199;refine(HE.o).mono ?_;rintro e w1 ⟨rfl,rfl⟩)
   |(go_at_call 108;refine(HW.o _ HY.o).mono ?_;rintro e w2 ⟨rfl,rfl⟩;obtain⟨g9,sp,z1,⟨u9,z2⟩,z3,z4,z5,z6⟩:=HTT.o _ HY.o;have Z5:=h_ z5;have Z6:=h_ z6;clear z5 z6)
   |(go_at_call 136;refine(Z5.out).mono ?_;rintro e w3 ⟨rfl,rfl⟩))
  exact bodyPost_end (results_none rfl _ _ _) rfl ⟨rfl,Z6.out⟩
theorem Kw (b:Nat)(s:PSt)(x:PAt)(h:Sat ω w (atH b s x*F))(f:PEx)(hi:x.inner=.extend f)(hf:f.rule.fin=5)(hn:∀c,(x.told s).inner=.commit c→c.now≤4611686018427387904):
  Calls prog 94 #[.pointer b] w (Rets ω F (.tuple #[]) (atH b s (x.told s))):=by
 have hT:x.told s=stampT (x.out 5 0 f.rule.by_):=by
  rw[BD,hi];show stampT (if f.rule.fin=0 then x else if f.rule.fin=5 then x.out 5 0 f.rule.by_ else x.ended s)=_
  rw[if_neg (by omega),if_pos hf]
 have hi2:(stampT (x.out 5 0 f.rule.by_)).inner=((x.out 5 0 f.rule.by_):PAt).inner:=by unfold stampT;split<;>rfl
 rw[hT] at hn ⊢;rw[hi2] at hn;obtain⟨D,hx⟩:=AC h;have hb:=AA hx;obtain⟨G,j1,_⟩:=AF hx;rw[hi] at j1;obtain⟨g,e1,e2,j3,_⟩:=DT j1;obtain⟨A,c,j4⟩:=CM j3;have hg:=j4.assoc.blk;have c15:w.cell? (κ b 15)=some (.iface 195 (.pointer g)):=by have:=hb.cell 15;rw[this];show some D.inn=_;rw[e1]
 have lt:=hb.lt;have HE:=h_ (Cy w g f A c hg);have HB:=h_ (Gm w g f A c hg);have HO:=h_ (Bk ω w F b s x h 5 0 f.rule.by_);rw[hf] at HE;obtain⟨y,hy⟩:∃y,(x.out 5 0 f.rule.by_)=y:=⟨_,rfl⟩;rw[hy] at hn HO ⊢;have HW:Hid (∀w1,Sat ω w1 (atH b s y*F)→Calls prog 108 #[.pointer b] w1 fun e w'=>e=.returned (.bool y.writing)∧w'=w1):=h_ (fun w1 h1=>AO ω w1 F b s y h1)
 have hm:=Ej;have hm2:=Gc;cases hwr:y.writing
 ·have hst:stampT y=y:=by unfold stampT;rw[if_neg (by simp[hwr])]
  rw[hst];rw[hwr] at HW;generalize f.rule.fin=ff at *
  generalize f.rule.by_=fb at *
  clear h hx hb j1 j3 j4 hg e1 e2 hi hT hi2 hy hf hwr hst hn;go_enter func94,ntmps94;go_wp2_with (first
   |(go_at_call 199;refine(HE.o).mono ?_;rintro e w1 ⟨rfl,rfl⟩)
   |(go_at_call 395;refine(HB.o).mono ?_;rintro e w1 ⟨rfl,rfl⟩)
   |(go_at_call 92;refine(HO.o).mono ?_;rintro e w1 ⟨rfl,hs⟩;have HY:=h_ hs;clear hs)
   |(go_at_call 108;refine(HW.o _ HY.o).mono ?_;rintro e w2 ⟨rfl,rfl⟩))
  exact bodyPost_end (results_none rfl _ _ _) rfl ⟨rfl,HY.o⟩
 ·have HTT:Hid (∀w1,Sat ω w1 (atH b s y*F)→∃g sp,ToT ω w1 F b s y g sp):=h_ (fun w1 h1=>Bf h1 hwr hn)
  rw[hwr] at HW;generalize f.rule.fin=ff at *
  generalize f.rule.by_=fb at *
  clear h hx hb j1 j3 j4 hg e1 e2 hi hT hi2 hy hf hwr hn;go_enter func94,ntmps94;go_wp2_with (first
   |(go_at_call 199;refine(HE.o).mono ?_;rintro e w1 ⟨rfl,rfl⟩)
   |(go_at_call 395;refine(HB.o).mono ?_;rintro e w1 ⟨rfl,rfl⟩)
   |(go_at_call 92;refine(HO.o).mono ?_;rintro e w1 ⟨rfl,hs⟩;have HY:=h_ hs;clear hs)
   |(go_at_call 108;refine(HW.o _ HY.o).mono ?_;rintro e w2 ⟨rfl,rfl⟩;obtain⟨g9,sp,z1,⟨u9,z2⟩,z3,z4,z5,z6⟩:=HTT.o _ HY.o;have Z5:=h_ z5;have Z6:=h_ z6;clear z5 z6)
   |(go_at_call 136;refine(Z5.out).mono ?_;rintro e w3 ⟨rfl,rfl⟩))
  exact bodyPost_end (results_none rfl _ _ _) rfl ⟨rfl,Z6.out⟩
theorem FL (b:Nat)(s:PSt)(x:PAt)(h:Sat ω w (atH b s x*F))(f:PEx)(hi:x.inner=.extend f)(hf0:f.rule.fin≠0)(hf5:f.rule.fin≠5)(hen:Calls prog 135 #[.pointer b] w (Rets ω F (.tuple #[]) (atH b s (x.ended s))))(hn:∀c,(x.told s).inner=.commit c→c.now≤4611686018427387904):
  Calls prog 94 #[.pointer b] w (Rets ω F (.tuple #[]) (atH b s (x.told s))):=by
 have hT:x.told s=stampT (x.ended s):=by
  rw[BD,hi];show stampT (if f.rule.fin=0 then x else if f.rule.fin=5 then x.out 5 0 f.rule.by_ else x.ended s)=_
  rw[if_neg hf0,if_neg hf5]
 have hi2:(stampT (x.ended s)).inner=((x.ended s):PAt).inner:=by unfold stampT;split<;>rfl
 rw[hT] at hn ⊢;rw[hi2] at hn;obtain⟨D,hx⟩:=AC h;have hb:=AA hx;obtain⟨G,j1,_⟩:=AF hx;rw[hi] at j1;obtain⟨g,e1,e2,j3,_⟩:=DT j1;obtain⟨A,c,j4⟩:=CM j3;have hg:=j4.assoc.blk;have c15:w.cell? (κ b 15)=some (.iface 195 (.pointer g)):=by have:=hb.cell 15;rw[this];show some D.inn=_;rw[e1]
 have lt:=hb.lt;have HE:=h_ (Cy w g f A c hg);have HB:=h_ (Gm w g f A c hg);have HO:=h_ hen;have d0:((f.rule.fin:Int)==0)=false:=by simp;omega
 have d5:((f.rule.fin:Int)==5)=false:=by simp;omega
 obtain⟨y,hy⟩:∃y,(x.ended s)=y:=⟨_,rfl⟩;rw[hy] at hn HO ⊢;have HW:Hid (∀w1,Sat ω w1 (atH b s y*F)→Calls prog 108 #[.pointer b] w1 fun e w'=>e=.returned (.bool y.writing)∧w'=w1):=h_ (fun w1 h1=>AO ω w1 F b s y h1)
 have hm:=Ej;have hm2:=Gc;cases hwr:y.writing
 ·have hst:stampT y=y:=by unfold stampT;rw[if_neg (by simp[hwr])]
  rw[hst];rw[hwr] at HW;generalize f.rule.fin=ff at *
  generalize f.rule.by_=fb at *
  clear h hx hb j1 j3 j4 hg e1 e2 hi hT hi2 hy hf0 hf5 hen hwr hst hn;go_enter func94,ntmps94;go_wp2_with (first
   |(go_at_call 199;refine(HE.o).mono ?_;rintro e w1 ⟨rfl,rfl⟩)
   |(go_at_call 135;refine(HO.o).mono ?_;rintro e w1 ⟨rfl,hs⟩;have HY:=h_ hs;clear hs)
   |(go_at_call 108;refine(HW.o _ HY.o).mono ?_;rintro e w2 ⟨rfl,rfl⟩))
  exact bodyPost_end (results_none rfl _ _ _) rfl ⟨rfl,HY.o⟩
 ·have HTT:Hid (∀w1,Sat ω w1 (atH b s y*F)→∃g sp,ToT ω w1 F b s y g sp):=h_ (fun w1 h1=>Bf h1 hwr hn)
  rw[hwr] at HW;generalize f.rule.fin=ff at *
  generalize f.rule.by_=fb at *
  clear h hx hb j1 j3 j4 hg e1 e2 hi hT hi2 hy hf0 hf5 hen hwr hn;go_enter func94,ntmps94;go_wp2_with (first
   |(go_at_call 199;refine(HE.o).mono ?_;rintro e w1 ⟨rfl,rfl⟩)
   |(go_at_call 135;refine(HO.o).mono ?_;rintro e w1 ⟨rfl,hs⟩;have HY:=h_ hs;clear hs)
   |(go_at_call 108;refine(HW.o _ HY.o).mono ?_;rintro e w2 ⟨rfl,rfl⟩;obtain⟨g9,sp,z1,⟨u9,z2⟩,z3,z4,z5,z6⟩:=HTT.o _ HY.o;have Z5:=h_ z5;have Z6:=h_ z6;clear z5 z6)
   |(go_at_call 136;refine(Z5.out).mono ?_;rintro e w3 ⟨rfl,rfl⟩))
  exact bodyPost_end (results_none rfl _ _ _) rfl ⟨rfl,Z6.out⟩
theorem LA (b:Nat)(s:PSt)(x:PAt)(h:Sat ω w (atH b s x*F))(f:PCo)(hi:x.inner=.commit f)(hf:f.rule.fin=0)(hn:∀c,(x.told s).inner=.commit c→c.now≤4611686018427387904):
  Calls prog 94 #[.pointer b] w (Rets ω F (.tuple #[]) (atH b s (x.told s))):=by
 have hT:x.told s=stampT x:=by
  rw[BD,hi];show stampT (if f.rule.fin=0 then x else if f.rule.fin=5 then x.out 5 0 f.rule.by_ else x.ended s)=_
  rw[if_pos hf]
 have hi2:(stampT x).inner=(x:PAt).inner:=by unfold stampT;split<;>rfl
 rw[hT] at hn ⊢;rw[hi2] at hn;obtain⟨D,hx⟩:=AC h;have hb:=AA hx;obtain⟨G,j1,_⟩:=AF hx;rw[hi] at j1;obtain⟨g,e1,e2,j3,_⟩:=DU j1;obtain⟨CD,hg⟩:=FG j3;have c15:w.cell? (κ b 15)=some (.iface 196 (.pointer g)):=by have:=hb.cell 15;rw[this];show some D.inn=_;rw[e1]
 have lt:=hb.lt;have HE:=h_ (Ba w g f CD hg);have HB:=h_ (Ha w g f CD hg);have HY:Hid (Sat ω w (atH b s x*F)):=h_ h;rw[hf] at HE;have q1:True:=trivial;obtain⟨y,hy⟩:∃y,x=y:=⟨_,rfl⟩;rw[hy] at hn HY ⊢;have HW:Hid (∀w1,Sat ω w1 (atH b s y*F)→Calls prog 108 #[.pointer b] w1 fun e w'=>e=.returned (.bool y.writing)∧w'=w1):=h_ (fun w1 h1=>AO ω w1 F b s y h1)
 have hm:=Ek;have hm2:=Gd;cases hwr:y.writing
 ·have hst:stampT y=y:=by unfold stampT;rw[if_neg (by simp[hwr])]
  rw[hst];rw[hwr] at HW;generalize f.rule.fin=ff at *
  generalize f.rule.by_=fb at *
  clear h hx hb j1 j3 hg e1 e2 hi hT hi2 hy hf hwr hst hn;go_enter func94,ntmps94;go_wp2_with (first
   |(go_at_call 145;refine(HE.o).mono ?_;rintro e w1 ⟨rfl,rfl⟩)
   |(go_at_call 108;refine(HW.o _ HY.o).mono ?_;rintro e w2 ⟨rfl,rfl⟩))
  exact bodyPost_end (results_none rfl _ _ _) rfl ⟨rfl,HY.o⟩
 ·have HTT:Hid (∀w1,Sat ω w1 (atH b s y*F)→∃g sp,ToT ω w1 F b s y g sp):=h_ (fun w1 h1=>Bf h1 hwr hn)
  rw[hwr] at HW;generalize f.rule.fin=ff at *
  generalize f.rule.by_=fb at *
  clear h hx hb j1 j3 hg e1 e2 hi hT hi2 hy hf hwr hn;go_enter func94,ntmps94;go_wp2_with (first
   |(go_at_call 145;refine(HE.o).mono ?_;rintro e w1 ⟨rfl,rfl⟩)
   |(go_at_call 108;refine(HW.o _ HY.o).mono ?_;rintro e w2 ⟨rfl,rfl⟩;obtain⟨g9,sp,z1,⟨u9,z2⟩,z3,z4,z5,z6⟩:=HTT.o _ HY.o;have Z5:=h_ z5;have Z6:=h_ z6;clear z5 z6)
   |(go_at_call 136;refine(Z5.out).mono ?_;rintro e w3 ⟨rfl,rfl⟩))
  exact bodyPost_end (results_none rfl _ _ _) rfl ⟨rfl,Z6.out⟩
theorem Kz (b:Nat)(s:PSt)(x:PAt)(h:Sat ω w (atH b s x*F))(f:PCo)(hi:x.inner=.commit f)(hf:f.rule.fin=5)(hn:∀c,(x.told s).inner=.commit c→c.now≤4611686018427387904):
  Calls prog 94 #[.pointer b] w (Rets ω F (.tuple #[]) (atH b s (x.told s))):=by
 have hT:x.told s=stampT (x.out 5 0 f.rule.by_):=by
  rw[BD,hi];show stampT (if f.rule.fin=0 then x else if f.rule.fin=5 then x.out 5 0 f.rule.by_ else x.ended s)=_
  rw[if_neg (by omega),if_pos hf]
 have hi2:(stampT (x.out 5 0 f.rule.by_)).inner=((x.out 5 0 f.rule.by_):PAt).inner:=by unfold stampT;split<;>rfl
 rw[hT] at hn ⊢;rw[hi2] at hn;obtain⟨D,hx⟩:=AC h;have hb:=AA hx;obtain⟨G,j1,_⟩:=AF hx;rw[hi] at j1;obtain⟨g,e1,e2,j3,_⟩:=DU j1;obtain⟨CD,hg⟩:=FG j3;have c15:w.cell? (κ b 15)=some (.iface 196 (.pointer g)):=by have:=hb.cell 15;rw[this];show some D.inn=_;rw[e1]
 have lt:=hb.lt;have HE:=h_ (Ba w g f CD hg);have HB:=h_ (Ha w g f CD hg);have HO:=h_ (Bk ω w F b s x h 5 0 f.rule.by_);rw[hf] at HE;obtain⟨y,hy⟩:∃y,(x.out 5 0 f.rule.by_)=y:=⟨_,rfl⟩;rw[hy] at hn HO ⊢;have HW:Hid (∀w1,Sat ω w1 (atH b s y*F)→Calls prog 108 #[.pointer b] w1 fun e w'=>e=.returned (.bool y.writing)∧w'=w1):=h_ (fun w1 h1=>AO ω w1 F b s y h1)
 have hm:=Ek;have hm2:=Gd;cases hwr:y.writing
 ·have hst:stampT y=y:=by unfold stampT;rw[if_neg (by simp[hwr])]
  rw[hst];rw[hwr] at HW;generalize f.rule.fin=ff at *
  generalize f.rule.by_=fb at *
  clear h hx hb j1 j3 hg e1 e2 hi hT hi2 hy hf hwr hst hn;go_enter func94,ntmps94;go_wp2_with (first
   |(go_at_call 145;refine(HE.o).mono ?_;rintro e w1 ⟨rfl,rfl⟩)
   |(go_at_call 398;refine(HB.o).mono ?_;rintro e w1 ⟨rfl,rfl⟩)
   |(go_at_call 92;refine(HO.o).mono ?_;rintro e w1 ⟨rfl,hs⟩;have HY:=h_ hs;clear hs)
   |(go_at_call 108;refine(HW.o _ HY.o).mono ?_;rintro e w2 ⟨rfl,rfl⟩))
  exact bodyPost_end (results_none rfl _ _ _) rfl ⟨rfl,HY.o⟩
 ·have HTT:Hid (∀w1,Sat ω w1 (atH b s y*F)→∃g sp,ToT ω w1 F b s y g sp):=h_ (fun w1 h1=>Bf h1 hwr hn)
  rw[hwr] at HW;generalize f.rule.fin=ff at *
  generalize f.rule.by_=fb at *
  clear h hx hb j1 j3 hg e1 e2 hi hT hi2 hy hf hwr hn;go_enter func94,ntmps94;go_wp2_with (first
   |(go_at_call 145;refine(HE.o).mono ?_;rintro e w1 ⟨rfl,rfl⟩)
   |(go_at_call 398;refine(HB.o).mono ?_;rintro e w1 ⟨rfl,rfl⟩)
   |(go_at_call 92;refine(HO.o).mono ?_;rintro e w1 ⟨rfl,hs⟩;have HY:=h_ hs;clear hs)
   |(go_at_call 108;refine(HW.o _ HY.o).mono ?_;rintro e w2 ⟨rfl,rfl⟩;obtain⟨g9,sp,z1,⟨u9,z2⟩,z3,z4,z5,z6⟩:=HTT.o _ HY.o;have Z5:=h_ z5;have Z6:=h_ z6;clear z5 z6)
   |(go_at_call 136;refine(Z5.out).mono ?_;rintro e w3 ⟨rfl,rfl⟩))
  exact bodyPost_end (results_none rfl _ _ _) rfl ⟨rfl,Z6.out⟩
theorem Ky (b:Nat)(s:PSt)(x:PAt)(h:Sat ω w (atH b s x*F))(f:PCo)(hi:x.inner=.commit f)(hf0:f.rule.fin≠0)(hf5:f.rule.fin≠5)(hen:Calls prog 135 #[.pointer b] w (Rets ω F (.tuple #[]) (atH b s (x.ended s))))(hn:∀c,(x.told s).inner=.commit c→c.now≤4611686018427387904):
  Calls prog 94 #[.pointer b] w (Rets ω F (.tuple #[]) (atH b s (x.told s))):=by
 have hT:x.told s=stampT (x.ended s):=by
  rw[BD,hi];show stampT (if f.rule.fin=0 then x else if f.rule.fin=5 then x.out 5 0 f.rule.by_ else x.ended s)=_
  rw[if_neg hf0,if_neg hf5]
 have hi2:(stampT (x.ended s)).inner=((x.ended s):PAt).inner:=by unfold stampT;split<;>rfl
 rw[hT] at hn ⊢;rw[hi2] at hn;obtain⟨D,hx⟩:=AC h;have hb:=AA hx;obtain⟨G,j1,_⟩:=AF hx;rw[hi] at j1;obtain⟨g,e1,e2,j3,_⟩:=DU j1;obtain⟨CD,hg⟩:=FG j3;have c15:w.cell? (κ b 15)=some (.iface 196 (.pointer g)):=by have:=hb.cell 15;rw[this];show some D.inn=_;rw[e1]
 have lt:=hb.lt;have HE:=h_ (Ba w g f CD hg);have HB:=h_ (Ha w g f CD hg);have HO:=h_ hen;have d0:((f.rule.fin:Int)==0)=false:=by simp;omega
 have d5:((f.rule.fin:Int)==5)=false:=by simp;omega
 obtain⟨y,hy⟩:∃y,(x.ended s)=y:=⟨_,rfl⟩;rw[hy] at hn HO ⊢;have HW:Hid (∀w1,Sat ω w1 (atH b s y*F)→Calls prog 108 #[.pointer b] w1 fun e w'=>e=.returned (.bool y.writing)∧w'=w1):=h_ (fun w1 h1=>AO ω w1 F b s y h1)
 have hm:=Ek;have hm2:=Gd;cases hwr:y.writing
 ·have hst:stampT y=y:=by unfold stampT;rw[if_neg (by simp[hwr])]
  rw[hst];rw[hwr] at HW;generalize f.rule.fin=ff at *
  generalize f.rule.by_=fb at *
  clear h hx hb j1 j3 hg e1 e2 hi hT hi2 hy hf0 hf5 hen hwr hst hn;go_enter func94,ntmps94;go_wp2_with (first
   |(go_at_call 145;refine(HE.o).mono ?_;rintro e w1 ⟨rfl,rfl⟩)
   |(go_at_call 135;refine(HO.o).mono ?_;rintro e w1 ⟨rfl,hs⟩;have HY:=h_ hs;clear hs)
   |(go_at_call 108;refine(HW.o _ HY.o).mono ?_;rintro e w2 ⟨rfl,rfl⟩))
  exact bodyPost_end (results_none rfl _ _ _) rfl ⟨rfl,HY.o⟩
 ·have HTT:Hid (∀w1,Sat ω w1 (atH b s y*F)→∃g sp,ToT ω w1 F b s y g sp):=h_ (fun w1 h1=>Bf h1 hwr hn)
  rw[hwr] at HW;generalize f.rule.fin=ff at *
  generalize f.rule.by_=fb at *
  clear h hx hb j1 j3 hg e1 e2 hi hT hi2 hy hf0 hf5 hen hwr hn;go_enter func94,ntmps94;go_wp2_with (first
   |(go_at_call 145;refine(HE.o).mono ?_;rintro e w1 ⟨rfl,rfl⟩)
   |(go_at_call 135;refine(HO.o).mono ?_;rintro e w1 ⟨rfl,hs⟩;have HY:=h_ hs;clear hs)
   |(go_at_call 108;refine(HW.o _ HY.o).mono ?_;rintro e w2 ⟨rfl,rfl⟩;obtain⟨g9,sp,z1,⟨u9,z2⟩,z3,z4,z5,z6⟩:=HTT.o _ HY.o;have Z5:=h_ z5;have Z6:=h_ z6;clear z5 z6)
   |(go_at_call 136;refine(Z5.out).mono ?_;rintro e w3 ⟨rfl,rfl⟩))
  exact bodyPost_end (results_none rfl _ _ _) rfl ⟨rfl,Z6.out⟩
end
end Go.Proofs.YtfodmgaliclhfaaGreatDoor
