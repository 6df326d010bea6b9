/- Lemmas for TopPairs; no conditions. -/
import Derived.Test.YtfodmgaliclhfaaGreatDoorGMcMake
import Derived.Test.YtfodmgaliclhfaaGreatDoorGAtAll
namespace Go.Proofs.YtfodmgaliclhfaaGreatDoor
set_option linter.unusedVariables false
set_option linter.unusedSimpArgs false
set_option maxRecDepth 100000
set_option maxHeartbeats 16000000
open Go.RowKit
theorem mc_new (ω w:World)(F:HP)(r:PSt)(A:Option Addr)(c n:Nat)(L:List (List (List PIns)))(hn:L.length=n)(hn1:1≤n)(hn4:n≤4)(hL:∀l∈L,l.length≤6∧∀p∈l,p.length≤40∧okP p=true)(vs:List (Option Addr×Nat))(hvs:vs.length=L.length)(h:Sat ω w (jjX A c vs L*F)):
  Calls Tryz.prog 10 #[.agg #[.int .i64 r.words,.int .i64 r.stripes,.int .i64 r.wide,.int .i64 r.threads,.int .u64 r.start,.int .i64 r.spins,.int .i64 r.writes,.int .i64 r.fuel],.slice A n c] w fun e w'=>∃b,e=.returned (.pointer (some ⟨b,0,none⟩))∧Sat ω w' (mcH b (PMc.new r L)*(jjX A c vs L*F)):=by
 obtain⟨s,hs⟩:∃s,({ r with threads:=n }:PSt).held=s:=⟨_,rfl⟩
 have hkept:s.kept:=by rw[←hs];exact held_kept_ _
 have hthr:s.threads=n:=by rw[←hs];simp only[PSt.held];omega
 have hnew:mcK s L n=PMc.new r L:=by
  have:=mcK_new r L (by omega) (by omega)
  rw[hn,hs] at this;exact this
 have hcap:(n:Int)≤(c:Int):=by
  have h9:=h;unfold jjX at h9
  have:=row_cap h9.assoc
  omega
 obtain⟨Y,hY⟩:∃Y:HP,Y=jjX A c vs L*F:=⟨_,rfl⟩;obtain⟨N,hN⟩:∃N,w.heap.size=N:=⟨_,rfl⟩;rw[←hY] at h ⊢;have HB0:Hid (Sat ω (w.alloc (.cells #[.int .i64 r.words,.int .i64 r.stripes,.int .i64 r.wide,.int .i64 r.threads,.int .u64 r.start,.int .i64 r.spins,.int .i64 r.writes,.int .i64 r.fuel] 39)) (bk N 39 #[.int .i64 r.words,.int .i64 r.stripes,.int .i64 r.wide,.int .i64 r.threads,.int .u64 r.start,.int .i64 r.spins,.int .i64 r.writes,.int .i64 r.fuel]*Y)):=h_ (by rw[←hN];exact h.new _ _)
 have HB1:Hid (Sat ω (w.alloc (.cells #[.int .i64 r.words,.int .i64 r.stripes,.int .i64 r.wide,.int .i64 n,.int .u64 r.start,.int .i64 r.spins,.int .i64 r.writes,.int .i64 r.fuel] 39)) (bk N 39 #[.int .i64 r.words,.int .i64 r.stripes,.int .i64 r.wide,.int .i64 n,.int .u64 r.start,.int .i64 r.spins,.int .i64 r.writes,.int .i64 r.fuel]*Y)):=h_ (by rw[←hN];exact h.new _ _)
 have HHE:Hid (Calls Tryz.prog 32 #[.agg #[.int .i64 r.words,.int .i64 r.stripes,.int .i64 r.wide,.int .i64 n,.int .u64 r.start,.int .i64 r.spins,.int .i64 r.writes,.int .i64 r.fuel]] (w.alloc (.cells #[.int .i64 r.words,.int .i64 r.stripes,.int .i64 r.wide,.int .i64 n,.int .u64 r.start,.int .i64 r.spins,.int .i64 r.writes,.int .i64 r.fuel] 39)) fun e w'=>e=.returned (.agg #[.int .i64 s.words,.int .i64 s.stripes,.int .i64 s.wide,.int .i64 s.threads,.int .u64 s.start,.int .i64 s.spins,.int .i64 s.writes,.int .i64 s.fuel])∧Sat ω w' (bk N 39 #[.int .i64 r.words,.int .i64 r.stripes,.int .i64 r.wide,.int .i64 n,.int .u64 r.start,.int .i64 r.spins,.int .i64 r.writes,.int .i64 r.fuel]*Y)):=h_ (by
  have q:=hs;refine(at_held _ (r.words:Int) (r.stripes:Int) (r.wide:Int) (n:Int) (r.start:Int) (r.spins:Int) (r.writes:Int) (r.fuel:Int) (s.words:Int) (s.stripes:Int) (s.wide:Int) (s.threads:Int) (s.start:Int) (s.spins:Int) (s.writes:Int) (s.fuel:Int) ?_ ?_ ?_ ?_ ?_ ?_ ?_ ?_).mono ?_;all_goals first
   |(rw[←hs];simp only[PSt.held];omega)
   |(rintro e w2 ⟨rfl,ho⟩;exact⟨rfl,HB1.o.nob ho⟩))
 have HB2:Hid (∀w1,Sat ω w1 (bk N 39 #[.int .i64 r.words,.int .i64 r.stripes,.int .i64 r.wide,.int .i64 n,.int .u64 r.start,.int .i64 r.spins,.int .i64 r.writes,.int .i64 r.fuel]*Y)→Sat ω ((((((((w1.setCell ⟨N,0,none⟩ (.int .i64 s.words)).setCell ⟨N,1,none⟩ (.int .i64 s.stripes)).setCell ⟨N,2,none⟩ (.int .i64 s.wide)).setCell ⟨N,3,none⟩ (.int .i64 s.threads)).setCell ⟨N,4,none⟩ (.int .u64 s.start)).setCell ⟨N,5,none⟩ (.int .i64 s.spins)).setCell ⟨N,6,none⟩ (.int .i64 s.writes)).setCell ⟨N,7,none⟩ (.int .i64 s.fuel)) (bk N 39 #[.int .i64 s.words,.int .i64 s.stripes,.int .i64 s.wide,.int .i64 s.threads,.int .u64 s.start,.int .i64 s.spins,.int .i64 s.writes,.int .i64 s.fuel]*Y)):=h_ (fun w1 h1=>((((((((h1.put 0 (.int .i64 s.words) (cs':=#[.int .i64 s.words,.int .i64 r.stripes,.int .i64 r.wide,.int .i64 n,.int .u64 r.start,.int .i64 r.spins,.int .i64 r.writes,.int .i64 r.fuel]) rfl).put 1 (.int .i64 s.stripes) (cs':=#[.int .i64 s.words,.int .i64 s.stripes,.int .i64 r.wide,.int .i64 n,.int .u64 r.start,.int .i64 r.spins,.int .i64 r.writes,.int .i64 r.fuel]) rfl).put 2 (.int .i64 s.wide) (cs':=#[.int .i64 s.words,.int .i64 s.stripes,.int .i64 s.wide,.int .i64 n,.int .u64 r.start,.int .i64 r.spins,.int .i64 r.writes,.int .i64 r.fuel]) rfl).put 3 (.int .i64 s.threads) (cs':=#[.int .i64 s.words,.int .i64 s.stripes,.int .i64 s.wide,.int .i64 s.threads,.int .u64 r.start,.int .i64 r.spins,.int .i64 r.writes,.int .i64 r.fuel]) rfl).put 4 (.int .u64 s.start) (cs':=#[.int .i64 s.words,.int .i64 s.stripes,.int .i64 s.wide,.int .i64 s.threads,.int .u64 s.start,.int .i64 r.spins,.int .i64 r.writes,.int .i64 r.fuel]) rfl).put 5 (.int .i64 s.spins) (cs':=#[.int .i64 s.words,.int .i64 s.stripes,.int .i64 s.wide,.int .i64 s.threads,.int .u64 s.start,.int .i64 s.spins,.int .i64 r.writes,.int .i64 r.fuel]) rfl).put 6 (.int .i64 s.writes) (cs':=#[.int .i64 s.words,.int .i64 s.stripes,.int .i64 s.wide,.int .i64 s.threads,.int .u64 s.start,.int .i64 s.spins,.int .i64 s.writes,.int .i64 r.fuel]) rfl).put 7 (.int .i64 s.fuel) (cs':=#[.int .i64 s.words,.int .i64 s.stripes,.int .i64 s.wide,.int .i64 s.threads,.int .u64 s.start,.int .i64 s.spins,.int .i64 s.writes,.int .i64 s.fuel]) rfl))
 have HBK:Hid (∀w1 cs,Sat ω w1 (bk N 39 cs*Y)→Blk w1 N 39 cs):=h_ (fun w1 cs h1=>h1.blk)
 have HMN:Hid (∀w1,Sat ω w1 (bk N 39 #[.int .i64 s.words,.int .i64 s.stripes,.int .i64 s.wide,.int .i64 s.threads,.int .u64 s.start,.int .i64 s.spins,.int .i64 s.writes,.int .i64 s.fuel]*Y)→Calls Tryz.prog 33 #[.agg #[.int .i64 s.words,.int .i64 s.stripes,.int .i64 s.wide,.int .i64 s.threads,.int .u64 s.start]] w1 fun e w'=>∃mb,e=.returned (.pointer (some ⟨mb,0,none⟩))∧Sat ω w' (bk N 39 #[.int .i64 s.words,.int .i64 s.stripes,.int .i64 s.wide,.int .i64 s.threads,.int .u64 s.start,.int .i64 s.spins,.int .i64 s.writes,.int .i64 s.fuel]*(memH (shOf s) mb (mem0 s)*Y))∧BoxS N #[.int .i64 s.words,.int .i64 s.stripes,.int .i64 s.wide,.int .i64 s.threads,.int .u64 s.start,.int .i64 s.spins,.int .i64 s.writes,.int .i64 s.fuel] w'):=h_ (fun w1 h1=>by
  refine(mem_new ω w1 _ s hkept h1).mono ?_;rintro e w2 ⟨mb,rfl,h2⟩;exact⟨mb,rfl,h2.swap,h2.swap.blk⟩)
 have HKE:=h_ hkept;have HNEW:=h_ hnew;have HTHR:=h_ hthr;have hmin:min (n:Int) 4=(n:Int):=by omega
 clear h hs hkept hnew hthr;go_enter Tryz.func10,Tryz.ntmps10;go_wp2_with (go_at_call 32;refine(HHE.o).mono ?_;rintro e w1 ⟨rfl,hs⟩;have kN:=HBK.o _ _ hs;have nf:=kN.frozen;have nl:=kN.lt;have n0:=kN.c 0;have n1:=kN.c 1;have n2:=kN.c 2;have n3:=kN.c 3;have n4:=kN.c 4;have n5:=kN.c 5;have n6:=kN.c 6;have n7:=kN.c 7;have HH2:=h_ (HB2.o _ hs);clear hs kN);generalize ((((((((w1.setCell ⟨N,0,none⟩ (.int .i64 s.words)).setCell ⟨N,1,none⟩ (.int .i64 s.stripes)).setCell ⟨N,2,none⟩ (.int .i64 s.wide)).setCell ⟨N,3,none⟩ (.int .i64 s.threads)).setCell ⟨N,4,none⟩ (.int .u64 s.start)).setCell ⟨N,5,none⟩ (.int .i64 s.spins)).setCell ⟨N,6,none⟩ (.int .i64 s.writes)).setCell ⟨N,7,none⟩ (.int .i64 s.fuel))=wC at *
 have HD:=h_ (HH2.o.drewN 1);have HS0:BoxS N #[.int .i64 s.words,.int .i64 s.stripes,.int .i64 s.wide,.int .i64 s.threads,.int .u64 s.start,.int .i64 s.spins,.int .i64 s.writes,.int .i64 s.fuel] wC.drew:=HBK.o _ _ HD.o;clear n0 n1 n2 n3 n4 n5 n6 n7 nf nl HB2 HHE HB0 HB1;refine wp_region_noPanic ?_;refine gH (BoxS N #[.int .i64 s.words,.int .i64 s.stripes,.int .i64 s.wide,.int .i64 s.threads,.int .u64 s.start,.int .i64 s.spins,.int .i64 s.writes,.int .i64 s.fuel]) HS0 fun hh0=>?_
 refine tH 0 ?_ rfl ?_ (tH 1 ?_ rfl ?_ (tH 2 ?_ rfl ?_ ?_));all_goals (try (
  intro w hSw;have jl:=hSw.lt;have jf:=hSw.frozen;have j0:=hSw.c 0;have j1:=hSw.c 1;have j2:=hSw.c 2;have j3:=hSw.c 3;have j4:=hSw.c 4;have j5:=hSw.c 5;have j6:=hSw.c 6;have j7:=hSw.c 7;try simp only[Act.put,sA,sB,sC]
  go_simp<;>(try with_reducible rfl)))
 try simp only[Act.put,sA,sB,sC]
 refine oH 3 rfl fun K hK=>?_
 go_simp;go_at_call 33;refine(HMN.o _ HD.o).mono ?_;rintro e wL ⟨mb,rfl,hs,hz⟩;have HL:=h_ hs;have ZL:=h_ hz;clear hs hz;first|(refine hK.q ?_ fun hh1=>?_)|(go_wp2_with fail;refine hK.q ?_ fun hh1=>?_)
 ·exact ZL.out
 clear hK K hh0;try simp only[Act.put,sA,sB,sC]
 refine tH 4 ?_ rfl ?_ ?_;all_goals (try (
  intro w hSw;have jl:=hSw.lt;have jf:=hSw.frozen;have j0:=hSw.c 0;have j1:=hSw.c 1;have j2:=hSw.c 2;have j3:=hSw.c 3;have j4:=hSw.c 4;have j5:=hSw.c 5;have j6:=hSw.c 6;have j7:=hSw.c 7;go_simp<;>(try with_reducible rfl)))
 try simp only[Act.put,sA,sB,sC]
 refine oH 5 rfl fun K hK=>?_
 go_simp;first|(refine hK.q ?_ fun hh2=>?_)|(go_wp2_with fail;refine hK.q ?_ fun hh2=>?_)
 ·exact(ZL.out:Blk _ _ _ _).alloc _
 clear hK K hh1;try simp only[Act.put,sA,sB,sC]
 refine tH 6 ?_ rfl ?_ ?_;all_goals (try (
  intro w hSw;have jl:=hSw.lt;have jf:=hSw.frozen;have j0:=hSw.c 0;have j1:=hSw.c 1;have j2:=hSw.c 2;have j3:=hSw.c 3;have j4:=hSw.c 4;have j5:=hSw.c 5;have j6:=hSw.c 6;have j7:=hSw.c 7;go_simp<;>(try with_reducible rfl)))
 try simp only[Act.put,sA,sB,sC]
 refine dH (NoPanic.normal ?_);have HMX:Hid (Sat ω (wL.alloc (.cells #[.int .i64 s.words,.int .i64 s.stripes,.int .i64 s.wide,.int .i64 s.threads,.int .u64 s.start,.int .i64 s.spins,.int .i64 s.writes,.int .i64 s.fuel,.pointer (some ⟨mb,0,none⟩),.slice none 0 0,.int .i64 0,.int .i64 0,.int .i64 0,.int .u64 0,.int .u64 0,.int .u64 0,.bool false,.int .i64 0,.int .u64 0,.bool false,.int .i64 0,.bool false] 97)) (bk N 39 #[.int .i64 s.words,.int .i64 s.stripes,.int .i64 s.wide,.int .i64 s.threads,.int .u64 s.start,.int .i64 s.spins,.int .i64 s.writes,.int .i64 s.fuel]*(bk wL.heap.size 97 #[.int .i64 s.words,.int .i64 s.stripes,.int .i64 s.wide,.int .i64 s.threads,.int .u64 s.start,.int .i64 s.spins,.int .i64 s.writes,.int .i64 s.fuel,.pointer (some ⟨mb,0,none⟩),.slice none 0 0,.int .i64 0,.int .i64 0,.int .i64 0,.int .u64 0,.int .u64 0,.int .u64 0,.bool false,.int .i64 0,.int .u64 0,.bool false,.int .i64 0,.bool false]*(memH (shOf s) mb (mem0 s)*Y)))):=h_ (HL.o.new _ _).swap;generalize (wL.alloc (.cells #[.int .i64 s.words,.int .i64 s.stripes,.int .i64 s.wide,.int .i64 s.threads,.int .u64 s.start,.int .i64 s.spins,.int .i64 s.writes,.int .i64 s.fuel,.pointer (some ⟨mb,0,none⟩),.slice none 0 0,.int .i64 0,.int .i64 0,.int .i64 0,.int .u64 0,.int .u64 0,.int .u64 0,.bool false,.int .i64 0,.int .u64 0,.bool false,.int .i64 0,.bool false] 97))=wM at *
 generalize wL.heap.size=b at *
 have kX:=HMX.o.blk;have xf:=kX.frozen;have xl:=kX.lt;obtain⟨W,hW⟩:∃W,s.words=W:=⟨_,rfl⟩;have x0:wM.cell? ⟨N,0,none⟩=some (.int .i64 W):=by rw[←hW];exact kX.cell 0
 have hW1:32≤W:=by rw[←hW];exact HKE.o.w1
 have hW2:W≤256:=by rw[←hW];exact HKE.o.w2
 have HFR:Hid (Calls Tryz.prog 34 #[.int .i64 W] wM fun e w'=>∃g,e=.returned (.slice (some ⟨g,0,none⟩) W W)∧Sat ω w' (bk g 22 (vU ((List.replicate W 0).set 5 14)).toArray*(bk N 39 #[.int .i64 s.words,.int .i64 s.stripes,.int .i64 s.wide,.int .i64 s.threads,.int .u64 s.start,.int .i64 s.spins,.int .i64 s.writes,.int .i64 s.fuel]*(bk b 97 #[.int .i64 s.words,.int .i64 s.stripes,.int .i64 s.wide,.int .i64 s.threads,.int .u64 s.start,.int .i64 s.spins,.int .i64 s.writes,.int .i64 s.fuel,.pointer (some ⟨mb,0,none⟩),.slice none 0 0,.int .i64 0,.int .i64 0,.int .i64 0,.int .u64 0,.int .u64 0,.int .u64 0,.bool false,.int .i64 0,.int .u64 0,.bool false,.int .i64 0,.bool false]*(memH (shOf s) mb (mem0 s)*Y))))):=h_ (by
  exact fresh_any ω wM _ HMX.o W hW1 hW2)
 obtain⟨m1,hm1⟩:∃m1,(doC (mem0 s) ⟨2,5,0,14,PLk.zero,PLk.zero⟩).2=m1:=⟨_,rfl⟩;have HDO:Hid (∀k w1 P,k=5→Sat ω w1 (P*(memH (shOf s) mb (mem0 s)*Y))→Calls Tryz.prog 35 #[.pointer (some ⟨mb,0,none⟩),.agg #[.int .i64 2,.int .i64 ((k:Nat):Int),.int .u64 0,.int .u64 14,.int .u64 0,.bool false,.int .i64 0,.int .u64 0,.bool false,.int .i64 0]] w1 fun e w'=>(∃v,e=.returned v)∧Sat ω w' (P*(memH (shOf s) mb m1*Y))):=h_ (fun k w1 P hk h9=>by
  subst hk;have hk2:=HKE.o.s2;have hk3:=HKE.o.t2;have hfit:(mem0 s).fits:=⟨by simp[mem0];omega,by simp[mem0];omega,by simp[mem0];omega⟩
  refine(mem_do ω w1 _ (shOf s) mb (mem0 s) h9.swap hfit ⟨2,5,0,14,PLk.zero,PLk.zero⟩ (by simp) (by simp)).mono ?_
  rintro e w2 ⟨rfl,h10⟩;rw[hm1] at h10;exact⟨⟨_,rfl⟩,h10.swap⟩)
 have HWW:=h_ hW;clear ZL HL HMN HD HS0 hW kX HMX;go_wp2_with (go_at_call 34;refine(HFR.o).mono ?_;rintro e w1 ⟨g,rfl,hs⟩;have HF:=h_ hs;clear hs);go_loopw [6,7,32] (fun _ _ c wr=>∃k:Nat,k≤W∧c=.int .i64 k∧Hid (Sat ω wr (bk g 22 (vU ((List.replicate W 0).set 5 14)).toArray*(bk N 39 #[.int .i64 s.words,.int .i64 s.stripes,.int .i64 s.wide,.int .i64 s.threads,.int .u64 s.start,.int .i64 s.spins,.int .i64 s.writes,.int .i64 s.fuel]*(bk b 97 #[.int .i64 s.words,.int .i64 s.stripes,.int .i64 s.wide,.int .i64 s.threads,.int .u64 s.start,.int .i64 s.spins,.int .i64 s.writes,.int .i64 s.fuel,.pointer (some ⟨mb,0,none⟩),.slice none 0 0,.int .i64 0,.int .i64 0,.int .i64 0,.int .u64 0,.int .u64 0,.int .u64 0,.bool false,.int .i64 0,.int .u64 0,.bool false,.int .i64 0,.bool false]*(memH (shOf s) mb (if k≤5 then mem0 s else m1)*Y)))))) (fun _ _ c _=>W-(intOf c).toNat)
 case atStart=>exact⟨0,by omega,rfl,HF.o⟩
 case round =>
  obtain⟨k,hk,rfl,HA⟩:=hrel;by_cases hlt:k<W
  ·have kG:=HA.o.blk;have gf:=kG.frozen;have gl:=kG.lt;have kM:=HA.o.right.right.blk;have mf:=kM.frozen;have ml:=kM.lt;have q8:wr.cell? ⟨b,8,none⟩=some (.pointer (some ⟨mb,0,none⟩)):=kM.cell 8;have gc:wr.cell? ⟨g,k,none⟩=some (.int .u64 ((((List.replicate W 0).set 5 14).getD k 0:Nat):Int)):=by
    have h9:=kG.cell k;rw[h9];have h10:=@vU_at ((List.replicate W 0).set 5 14) k (by simp;omega)
    simpa using h10
   by_cases hk5:k=5
   ·have e14:((List.replicate W 0).set 5 14).getD k 0=14:=by
     rw[hk5,gD,List.getElem?_set_self (by simp;omega)];rfl
    rw[e14] at gc;have gc2:wr.cell? ⟨g,k,none⟩=some (.int .u64 14):=gc;have HD5:Hid (∀w1,w1=wr→Calls Tryz.prog 35 #[.pointer (some ⟨mb,0,none⟩),.agg #[.int .i64 2,.int .i64 ((k:Nat):Int),.int .u64 0,.int .u64 14,.int .u64 0,.bool false,.int .i64 0,.int .u64 0,.bool false,.int .i64 0]] w1 fun e w'=>(∃v,e=.returned v)∧Sat ω w' (bk g 22 (vU ((List.replicate W 0).set 5 14)).toArray*(bk N 39 #[.int .i64 s.words,.int .i64 s.stripes,.int .i64 s.wide,.int .i64 s.threads,.int .u64 s.start,.int .i64 s.spins,.int .i64 s.writes,.int .i64 s.fuel]*(bk b 97 #[.int .i64 s.words,.int .i64 s.stripes,.int .i64 s.wide,.int .i64 s.threads,.int .u64 s.start,.int .i64 s.spins,.int .i64 s.writes,.int .i64 s.fuel,.pointer (some ⟨mb,0,none⟩),.slice none 0 0,.int .i64 0,.int .i64 0,.int .i64 0,.int .u64 0,.int .u64 0,.int .u64 0,.bool false,.int .i64 0,.int .u64 0,.bool false,.int .i64 0,.bool false]*(memH (shOf s) mb (if k+1≤5 then mem0 s else m1)*Y))))):=h_ (fun w1 e1=>by
     subst e1;have h9:=HA.o;rw[if_pos (by omega)] at h9
     rw[if_neg (by omega)]
     refine(HDO.o k w1 (bk g 22 (vU ((List.replicate W 0).set 5 14)).toArray*(bk N 39 #[.int .i64 s.words,.int .i64 s.stripes,.int .i64 s.wide,.int .i64 s.threads,.int .u64 s.start,.int .i64 s.spins,.int .i64 s.writes,.int .i64 s.fuel]*bk b 97 #[.int .i64 s.words,.int .i64 s.stripes,.int .i64 s.wide,.int .i64 s.threads,.int .u64 s.start,.int .i64 s.spins,.int .i64 s.writes,.int .i64 s.fuel,.pointer (some ⟨mb,0,none⟩),.slice none 0 0,.int .i64 0,.int .i64 0,.int .i64 0,.int .u64 0,.int .u64 0,.int .u64 0,.bool false,.int .i64 0,.int .u64 0,.bool false,.int .i64 0,.bool false])) hk5 (h9.perm (by ac_rfl))).mono ?_
     rintro e w2 ⟨he,h10⟩;exact⟨he,h10.perm (by ac_rfl)⟩)
    clear gc kG kM hk5 e14;go_wp2_with (go_at_call 35;refine(HD5.o _ rfl).mono ?_;rintro e w2 ⟨⟨v9,rfl⟩,hs⟩;have HZ:=h_ hs;clear hs);exact⟨⟨k+1,by omega,by go_num,HZ.o⟩,by simp[intOf];omega⟩
   ·have e0:((List.replicate W 0).set 5 14).getD k 0=0:=by
     rw[gD,List.getElem?_set_ne (by omega),List.getElem?_replicate,if_pos hlt];rfl
    rw[e0] at gc;have gc2:wr.cell? ⟨g,k,none⟩=some (.int .u64 0):=gc;have HZ:Hid (Sat ω wr (bk g 22 (vU ((List.replicate W 0).set 5 14)).toArray*(bk N 39 #[.int .i64 s.words,.int .i64 s.stripes,.int .i64 s.wide,.int .i64 s.threads,.int .u64 s.start,.int .i64 s.spins,.int .i64 s.writes,.int .i64 s.fuel]*(bk b 97 #[.int .i64 s.words,.int .i64 s.stripes,.int .i64 s.wide,.int .i64 s.threads,.int .u64 s.start,.int .i64 s.spins,.int .i64 s.writes,.int .i64 s.fuel,.pointer (some ⟨mb,0,none⟩),.slice none 0 0,.int .i64 0,.int .i64 0,.int .i64 0,.int .u64 0,.int .u64 0,.int .u64 0,.bool false,.int .i64 0,.int .u64 0,.bool false,.int .i64 0,.bool false]*(memH (shOf s) mb (if k+1≤5 then mem0 s else m1)*Y))))):=h_ (by
     have h9:=HA.o;have e:(if k+1≤5 then mem0 s else m1)=(if k≤5 then mem0 s else m1):=by
      by_cases h5:k<5
      ·rw[if_pos (by omega),if_pos (by omega)]
      ·rw[if_neg (by omega),if_neg (by omega)]
     rw[e];exact h9)
    clear gc kG kM hk5 e0;go_wp2;exact⟨⟨k+1,by omega,by go_num,HZ.o⟩,by simp[intOf];omega⟩
  ·have HM0:Hid (Sat ω wr (bk N 39 #[.int .i64 s.words,.int .i64 s.stripes,.int .i64 s.wide,.int .i64 s.threads,.int .u64 s.start,.int .i64 s.spins,.int .i64 s.writes,.int .i64 s.fuel]*(mcX b (mcK s L 0) ⟨mb,none,0,[]⟩*Y))):=h_ (by
    have h9:=HA.o.right;rw[if_neg (by omega)] at h9
    rw[←hm1] at h9;exact(mcX_zero (h9.perm (by ac_rfl:_=bk b 97 #[.int .i64 s.words,.int .i64 s.stripes,.int .i64 s.wide,.int .i64 s.threads,.int .u64 s.start,.int .i64 s.spins,.int .i64 s.writes,.int .i64 s.fuel,.pointer (some ⟨mb,0,none⟩),.slice none 0 0,.int .i64 0,.int .i64 0,.int .i64 0,.int .u64 0,.int .u64 0,.int .u64 0,.bool false,.int .i64 0,.int .u64 0,.bool false,.int .i64 0,.bool false]*(memH (shOf s) mb (doC (mem0 s) ⟨2,5,0,14,PLk.zero,PLk.zero⟩).2*(bk N 39 #[.int .i64 s.words,.int .i64 s.stripes,.int .i64 s.wide,.int .i64 s.threads,.int .u64 s.start,.int .i64 s.spins,.int .i64 s.writes,.int .i64 s.fuel]*Y)))):Sat ω wr _).swap)
   clear HA HDO HFR HF;have HJO:Hid (∀k,k<n→∃(l:List (List PIns)) (m:Nat) (B:Option Addr) (d:Nat),l.length=m∧L.getD k []=l∧(∀w1 G,Sat ω w1 (G*Y)→∃ga,A=some ⟨ga,0,none⟩∧ga<w1.heap.size∧w1.cell? ⟨ga,k,none⟩=some (.slice B m d))∧∀w1 P,Sat ω w1 (P*Y)→Calls Tryz.prog 36 #[.int .i64 k,.agg #[.int .i64 s.words,.int .i64 s.stripes,.int .i64 s.wide,.int .i64 s.threads,.int .u64 s.start,.int .i64 s.spins,.int .i64 s.writes,.int .i64 s.fuel],.slice B m d] w1 fun e w'=>∃tb,e=.returned (.pointer (some ⟨tb,0,none⟩))∧Sat ω w' (thH tb s (PTh.new k s l)*(P*Y))):=h_ (fun k hk=>by
    obtain⟨B,d,R,h3,h4⟩:=jjAll_at vs L hvs k (by omega)
    obtain⟨l,hl⟩:∃l,L.getD k []=l:=⟨_,rfl⟩;have hpk:=hL (L.getD k []) (by rw[gD,List.getElem?_eq_getElem (by omega)];exact List.getElem_mem _)
    rw[hl] at h3 h4 hpk;refine⟨l,l.length,B,d,rfl,hl,fun w1 G h1=>?_,fun w1 P h1=>?_⟩
    ·have h2:Sat ω w1 (row 29 1 (.slice A L.length c) L.length (jjV vs L)*(jjAll vs L*F*G)):=h1.perm (by rw[hY];unfold jjX;ac_rfl)
     exact h2.rowCell h3
    ·have h2:Sat ω w1 (jobsH B d l*(R*(P*(F*row 29 1 (.slice A L.length c) L.length (jjV vs L))))):=h1.perm (by rw[hY];unfold jjX;rw[h4];ac_rfl)
     refine(th_new ω w1 _ k s HKE.o (by rw[HTHR.o];omega) B d l hpk.1 hpk.2 h2).mono ?_
     rintro e w2 ⟨tb,rfl,h5⟩;refine⟨tb,rfl,h5.perm ?_⟩;rw[hY];unfold jjX;rw[h4];ac_rfl)
   obtain⟨i0,hi0,hz⟩:=Option.map_eq_some_iff.1 infoThp_;simp only[Prod.mk.injEq] at hz;obtain⟨hz0,hz1,hz2⟩:=hz;have HI:=h_ hi0;have HZ0:=h_ hz0;have HZ1:=h_ hz1;have HZ2:=h_ hz2;have kX:=HM0.o.blk;have yf:=kX.frozen;have yl:=kX.lt;have y3:wr.cell? ⟨N,3,none⟩=some (.int .i64 n):=by have h9:=kX.c 3;rw[HTHR.o] at h9;exact h9
   clear hi0 hz0 hz1 hz2 kX hY hL hvs;go_wp2;go_loopw [8,9,51] (fun _ _ c wr=>∃(k:Nat) (D:McD),k≤n∧c=.int .i64 k∧Hid (Sat ω wr (bk N 39 #[.int .i64 s.words,.int .i64 s.stripes,.int .i64 s.wide,.int .i64 s.threads,.int .u64 s.start,.int .i64 s.spins,.int .i64 s.writes,.int .i64 s.fuel]*(mcX b (mcK s L k) D*Y)))) (fun _ _ c _=>n-(intOf c).toNat)
   case atStart=>exact⟨0,_,by omega,rfl,HM0.o⟩
   case round =>
    obtain⟨k2,D,hk2,rfl,HR⟩:=hrel;by_cases hlt2:k2<n
    ·obtain⟨l,m,B,d,hlm,hll,hJ,hC⟩:=HJO.o k2 hlt2;obtain⟨ga,rfl,hga,r0⟩:=hJ wr _ (HR.o.perm (by ac_rfl:_=(bk N 39 #[.int .i64 s.words,.int .i64 s.stripes,.int .i64 s.wide,.int .i64 s.threads,.int .u64 s.start,.int .i64 s.spins,.int .i64 s.writes,.int .i64 s.fuel]*mcX b (mcK s L k2) D)*Y))
     have HTD:=h_ (HR.o.drewN 1);have HNW:Hid (∀w1,Sat ω w1 (bk N 39 #[.int .i64 s.words,.int .i64 s.stripes,.int .i64 s.wide,.int .i64 s.threads,.int .u64 s.start,.int .i64 s.spins,.int .i64 s.writes,.int .i64 s.fuel]*(mcX b (mcK s L k2) D*Y))→Calls Tryz.prog 36 #[.int .i64 k2,.agg #[.int .i64 s.words,.int .i64 s.stripes,.int .i64 s.wide,.int .i64 s.threads,.int .u64 s.start,.int .i64 s.spins,.int .i64 s.writes,.int .i64 s.fuel],.slice B m d] w1 fun e w'=>∃tb,e=.returned (.pointer (some ⟨tb,0,none⟩))∧Sat ω w' (bk N 39 #[.int .i64 s.words,.int .i64 s.stripes,.int .i64 s.wide,.int .i64 s.threads,.int .u64 s.start,.int .i64 s.spins,.int .i64 s.writes,.int .i64 s.fuel]*(thH tb s (PTh.new k2 s (L.getD k2 []))*(mcX b (mcK s L k2) D*Y)))∧BoxS N #[.int .i64 s.words,.int .i64 s.stripes,.int .i64 s.wide,.int .i64 s.threads,.int .u64 s.start,.int .i64 s.spins,.int .i64 s.writes,.int .i64 s.fuel] w'∧b<w'.heap.size∧w'.cell? ⟨b,9,none⟩=some (.slice D.tA k2 D.tc)):=h_ (fun w1 h1=>by
      refine(hC w1 (bk N 39 #[.int .i64 s.words,.int .i64 s.stripes,.int .i64 s.wide,.int .i64 s.threads,.int .u64 s.start,.int .i64 s.spins,.int .i64 s.writes,.int .i64 s.fuel]*mcX b (mcK s L k2) D) (h1.perm (by ac_rfl))).mono ?_
      rintro e w2 ⟨tb,rfl,h2⟩;rw[hll];have h3:Sat ω w2 (bk N 39 #[.int .i64 s.words,.int .i64 s.stripes,.int .i64 s.wide,.int .i64 s.threads,.int .u64 s.start,.int .i64 s.spins,.int .i64 s.writes,.int .i64 s.fuel]*(thH tb s (PTh.new k2 s l)*(mcX b (mcK s L k2) D*Y))):=h2.perm (by ac_rfl)
      have h4:=(mcX_open h3.right.right).2.blk;refine⟨tb,rfl,h3,h3.blk,h4.lt,?_⟩;rw[h4.cell 9];show some (Value.slice D.tA (mcK s L k2).thr.length D.tc)=_
      have e:(mcK s L k2).thr.length=k2:=by simp[mcK]
      rw[e])
     have k4:=(mcX_open HTD.o.right).2.blk;have lb:=k4.lt;have fb:=k4.frozen;have lbw:b<wr.heap.size:=lb;have q9:wr.drew.cell? ⟨b,9,none⟩=some (.slice D.tA k2 D.tc):=by
      have h9:=k4.c 9;have e:(mcK s L k2).thr.length=k2:=by simp[mcK]
      rw[e] at h9;exact h9
     have HPJ:Hid (∀w1 tb,Sat ω w1 (bk N 39 #[.int .i64 s.words,.int .i64 s.stripes,.int .i64 s.wide,.int .i64 s.threads,.int .u64 s.start,.int .i64 s.spins,.int .i64 s.writes,.int .i64 s.fuel]*(thH tb s (PTh.new k2 s (L.getD k2 []))*(mcX b (mcK s L k2) D*Y)))→Sat ω w1 (row 102 1 (.slice D.tA k2 D.tc) k2 (D.bs.map pV)*(bk b 97 (mcC (mcK s L k2) D)*(memH (shOf s) D.mb (mcK s L k2).mem*(thAll s D.bs (mcK s L k2).thr*(thH tb s (PTh.new k2 s (L.getD k2 []))*(bk N 39 #[.int .i64 s.words,.int .i64 s.stripes,.int .i64 s.wide,.int .i64 s.threads,.int .u64 s.start,.int .i64 s.spins,.int .i64 s.writes,.int .i64 s.fuel]*Y))))))):=h_ (fun w1 tb h1=>(mcX_row (h1.perm (by ac_rfl:_=mcX b (mcK s L k2) D*(thH tb s (PTh.new k2 s (L.getD k2 []))*(bk N 39 #[.int .i64 s.words,.int .i64 s.stripes,.int .i64 s.wide,.int .i64 s.threads,.int .u64 s.start,.int .i64 s.spins,.int .i64 s.writes,.int .i64 s.fuel]*Y))))).2)
     have hDl:=(mcX_row HTD.o.right).1;have HFJ:Hid (∀w1 A' c' tb,Sat ω w1 (row 102 1 (.slice A' (k2+1) c') (k2+1) (D.bs.map pV++[.pointer (some ⟨tb,0,none⟩)])*(bk b 97 (mcC (mcK s L k2) D)*(memH (shOf s) D.mb (mcK s L k2).mem*(thAll s D.bs (mcK s L k2).thr*(thH tb s (PTh.new k2 s (L.getD k2 []))*(bk N 39 #[.int .i64 s.words,.int .i64 s.stripes,.int .i64 s.wide,.int .i64 s.threads,.int .u64 s.start,.int .i64 s.spins,.int .i64 s.writes,.int .i64 s.fuel]*Y))))))→BoxS N #[.int .i64 s.words,.int .i64 s.stripes,.int .i64 s.wide,.int .i64 s.threads,.int .u64 s.start,.int .i64 s.spins,.int .i64 s.writes,.int .i64 s.fuel] w1∧Blk w1 b 97 (mcC (mcK s L k2) D)∧BoxS N #[.int .i64 s.words,.int .i64 s.stripes,.int .i64 s.wide,.int .i64 s.threads,.int .u64 s.start,.int .i64 s.spins,.int .i64 s.writes,.int .i64 s.fuel] (w1.setCell ⟨b,9,none⟩ (.slice A' (k2+1) c'))∧∃D',Sat ω (w1.setCell ⟨b,9,none⟩ (.slice A' (k2+1) c')) (bk N 39 #[.int .i64 s.words,.int .i64 s.stripes,.int .i64 s.wide,.int .i64 s.threads,.int .u64 s.start,.int .i64 s.spins,.int .i64 s.writes,.int .i64 s.fuel]*(mcX b (mcK s L (k2+1)) D'*Y))):=h_ (fun w1 A' c' tb h1=>by
      have h2:Sat ω w1 (bk N 39 #[.int .i64 s.words,.int .i64 s.stripes,.int .i64 s.wide,.int .i64 s.threads,.int .u64 s.start,.int .i64 s.spins,.int .i64 s.writes,.int .i64 s.fuel]*(row 102 1 (.slice A' (k2+1) c') (k2+1) (D.bs.map pV++[.pointer (some ⟨tb,0,none⟩)])*(bk b 97 (mcC (mcK s L k2) D)*(memH (shOf s) D.mb (mcK s L k2).mem*(thAll s D.bs (mcK s L k2).thr*(thH tb s (PTh.new k2 s (L.getD k2 []))*Y)))))):=h1.perm (by ac_rfl)
      have h3:=(mcRow_snoc hDl h1).swap;exact⟨h2.blk,h1.right.blk,h3.blk,_,h3⟩)
     have HON:Hid (∀tb:Nat,∀u∈([Value.pointer (some ⟨tb,0,none⟩)]:List Value),u.oneCell'=true):=h_ (by intro tb u hu;simp at hu;subst hu;rfl)
     have HRD:Hid (∀(w1:World) (tb:Nat),Reads (w1.alloc (.cells #[.pointer (some ⟨tb,0,none⟩)] 102)) (w1.heap.size+1) 1 (some ⟨w1.heap.size,0,none⟩) 1 [.pointer (some ⟨tb,0,none⟩)]):=h_ (fun w1 tb=>by
      have h9:=Reads.of_blk (size:=1) (n:=1) (Blk.new w1 102 #[.pointer (some ⟨tb,0,none⟩)]) rfl;rw[World.size_alloc] at h9;exact h9)
     have HSB:BoxS N #[.int .i64 s.words,.int .i64 s.stripes,.int .i64 s.wide,.int .i64 s.threads,.int .u64 s.start,.int .i64 s.spins,.int .i64 s.writes,.int .i64 s.fuel] wr.drew:=HTD.o.blk;clear hJ hC hlm hll k4 hDl;go_wp2;refine wp_region_noPanic ?_;refine gH (BoxS N #[.int .i64 s.words,.int .i64 s.stripes,.int .i64 s.wide,.int .i64 s.threads,.int .u64 s.start,.int .i64 s.spins,.int .i64 s.writes,.int .i64 s.fuel]) HSB fun hh0=>?_
     refine tH 0 ?_ rfl ?_ (tH 1 ?_ rfl ?_ (tH 5 ?_ rfl ?_ (tH 6 ?_ rfl ?_ (tH 7 ?_ rfl ?_ (tH 2 ?_ rfl ?_ (tH 3 ?_ rfl ?_ ?_))))));all_goals (try (
      intro w hSw;have jl:=hSw.lt;have jf:=hSw.frozen;have j0:=hSw.c 0;have j1:=hSw.c 1;have j2:=hSw.c 2;have j3:=hSw.c 3;have j4:=hSw.c 4;have j5:=hSw.c 5;have j6:=hSw.c 6;have j7:=hSw.c 7;try simp only[Act.put,sA,sB,sC]
      go_simp<;>(try with_reducible rfl)))
     try simp only[Act.put,sA,sB,sC]
     refine rH [4,8] ?_;refine cH rfl (fun K hK=>?_) ?_
     ·go_simp;first|(refine hK.q ?_ fun hh1=>?_)|(go_wp2_with fail;refine hK.q ?_ fun hh1=>?_)
      ·exact HSB
      clear hK K hh0;try simp only[Act.put,sA,sB,sC]
      refine oH 8 rfl fun K hK=>?_
      go_simp;go_at_call 36;refine(HNW.o _ HTD.o).mono ?_;rintro e wA ⟨tb,rfl,hs,hz,lA,qA⟩;have HAt:=h_ hs;have ZA:=h_ hz;have lA1:b<wA.heap.size+1:=(by omega);have qA1:∀o,(wA.alloc o).cell? ⟨b,9,none⟩=some (.slice D.tA k2 D.tc):=fun o=>(by rw[World.cell?_alloc_lt _ _ _ lA];exact qA);clear hs hz
      first|(refine hK.q ?_ fun hh2=>?_)|(go_wp2_with fail;refine hK.q ?_ fun hh2=>?_)
      ·exact ZA.out
      clear hK K hh1;try simp only[Act.put,sA,sB,sC]
      refine oH 9 rfl fun K hK=>?_
      go_simp;first|(refine hK.q ?_ fun hh3=>?_)|(go_wp2_with fail;refine hK.q ?_ fun hh3=>?_)
      ·exact(ZA.out:Blk _ _ _ _).alloc _
      clear hK K hh2;try simp only[Act.put,sA,sB,sC]
      refine oH 10 rfl fun K hK=>?_
      have HRW:=h_ (HPJ.o _ _ HAt.o);refine sap 91 102 1 8 Tryz.underlying91 HI.o HZ0.o HZ1.o HZ2.o (HRW.o.junk _) (HRD.o _ _) (HON.o _) ?_;intro A' c' wB hs;obtain⟨k1,kk2,k3,D',h4⟩:=HFJ.o _ _ _ _ hs;have HK1:=h_ k1;have HK3:=h_ k3;have HYY:=h_ h4;have qf:=kk2.frozen;have ql:=kk2.lt;obtain⟨u9,q9b⟩:∃u,wB.cell? ⟨b,9,none⟩=some u:=⟨_,kk2.cell 9⟩;clear hs k1 kk2 k3 h4;first|(refine hK.q ?_ fun hh4=>?_)|(go_wp2_with fail;refine hK.q ?_ fun hh4=>?_)
      ·exact HK1.o
      clear hK K hh3;try simp only[Act.put,sA,sB,sC]
      refine tH 11 ?_ rfl ?_ (tH 12 ?_ rfl ?_ ?_);all_goals (try (
       intro w hSw;have jl:=hSw.lt;have jf:=hSw.frozen;have j0:=hSw.c 0;have j1:=hSw.c 1;have j2:=hSw.c 2;have j3:=hSw.c 3;have j4:=hSw.c 4;have j5:=hSw.c 5;have j6:=hSw.c 6;have j7:=hSw.c 7;try simp only[Act.put,sA,sB,sC]
       go_simp<;>(try with_reducible rfl)))
      try simp only[Act.put,sA,sB,sC]
      refine oH 13 rfl fun K hK=>?_
      go_simp;first|(refine hK.q ?_ fun hh5=>?_)|(go_wp2_with fail;refine hK.q ?_ fun hh5=>?_)
      ·exact HK3.o
      clear hK K hh4;try simp only[Act.put,sA,sB,sC]
      refine dH (NoPanic.normal ?_);go_wp2;exact⟨⟨k2+1,D',by omega,by go_num,HYY.o⟩,by simp[intOf];omega⟩
     refine nH rfl fun K hK=>?_
     ·go_simp;go_at_call 36;refine(HNW.o _ HTD.o).mono ?_;rintro e wA ⟨tb,rfl,hs,hz,lA,qA⟩;have HAt:=h_ hs;have ZA:=h_ hz;have lA1:b<wA.heap.size+1:=(by omega);have qA1:∀o,(wA.alloc o).cell? ⟨b,9,none⟩=some (.slice D.tA k2 D.tc):=fun o=>(by rw[World.cell?_alloc_lt _ _ _ lA];exact qA);clear hs hz
      first|(refine hK.q ?_ fun hh1=>?_)|(go_wp2_with fail;refine hK.q ?_ fun hh1=>?_)
      ·exact ZA.out
      clear hK K hh0;try simp only[Act.put,sA,sB,sC]
      refine rH [4,9] ?_;refine cH rfl (fun K hK=>?_) ?_
      ·go_simp;first|(refine hK.q ?_ fun hh2=>?_)|(go_wp2_with fail;refine hK.q ?_ fun hh2=>?_)
       ·exact ZA.out
       clear hK K hh1;try simp only[Act.put,sA,sB,sC]
       refine oH 9 rfl fun K hK=>?_
       go_simp;first|(refine hK.q ?_ fun hh3=>?_)|(go_wp2_with fail;refine hK.q ?_ fun hh3=>?_)
       ·exact(ZA.out:Blk _ _ _ _).alloc _
       clear hK K hh2;try simp only[Act.put,sA,sB,sC]
       refine oH 10 rfl fun K hK=>?_
       have HRW:=h_ (HPJ.o _ _ HAt.o);refine sap 91 102 1 8 Tryz.underlying91 HI.o HZ0.o HZ1.o HZ2.o (HRW.o.junk _) (HRD.o _ _) (HON.o _) ?_;intro A' c' wB hs;obtain⟨k1,kk2,k3,D',h4⟩:=HFJ.o _ _ _ _ hs;have HK1:=h_ k1;have HK3:=h_ k3;have HYY:=h_ h4;have qf:=kk2.frozen;have ql:=kk2.lt;obtain⟨u9,q9b⟩:∃u,wB.cell? ⟨b,9,none⟩=some u:=⟨_,kk2.cell 9⟩;clear hs k1 kk2 k3 h4;first|(refine hK.q ?_ fun hh4=>?_)|(go_wp2_with fail;refine hK.q ?_ fun hh4=>?_)
       ·exact HK1.o
       clear hK K hh3;try simp only[Act.put,sA,sB,sC]
       refine tH 11 ?_ rfl ?_ (tH 12 ?_ rfl ?_ ?_);all_goals (try (
        intro w hSw;have jl:=hSw.lt;have jf:=hSw.frozen;have j0:=hSw.c 0;have j1:=hSw.c 1;have j2:=hSw.c 2;have j3:=hSw.c 3;have j4:=hSw.c 4;have j5:=hSw.c 5;have j6:=hSw.c 6;have j7:=hSw.c 7;try simp only[Act.put,sA,sB,sC]
        go_simp<;>(try with_reducible rfl)))
       try simp only[Act.put,sA,sB,sC]
       refine oH 13 rfl fun K hK=>?_
       go_simp;first|(refine hK.q ?_ fun hh5=>?_)|(go_wp2_with fail;refine hK.q ?_ fun hh5=>?_)
       ·exact HK3.o
       clear hK K hh4;try simp only[Act.put,sA,sB,sC]
       refine dH (NoPanic.normal ?_);go_wp2;exact⟨⟨k2+1,D',by omega,by go_num,HYY.o⟩,by simp[intOf];omega⟩
      refine nH rfl fun K hK=>?_
      ·go_simp;first|(refine hK.q ?_ fun hh2=>?_)|(go_wp2_with fail;refine hK.q ?_ fun hh2=>?_)
       ·exact(ZA.out:Blk _ _ _ _).alloc _
       clear hK K hh1;try simp only[Act.put,sA,sB,sC]
       refine oH 4 rfl fun K hK=>?_
       go_simp;first|(refine hK.q ?_ fun hh3=>?_)|(go_wp2_with fail;refine hK.q ?_ fun hh3=>?_)
       ·exact(ZA.out:Blk _ _ _ _).alloc _
       clear hK K hh2;try simp only[Act.put,sA,sB,sC]
       refine oH 10 rfl fun K hK=>?_
       have HRW:=h_ (HPJ.o _ _ HAt.o);refine sap 91 102 1 8 Tryz.underlying91 HI.o HZ0.o HZ1.o HZ2.o (HRW.o.junk _) (HRD.o _ _) (HON.o _) ?_;intro A' c' wB hs;obtain⟨k1,kk2,k3,D',h4⟩:=HFJ.o _ _ _ _ hs;have HK1:=h_ k1;have HK3:=h_ k3;have HYY:=h_ h4;have qf:=kk2.frozen;have ql:=kk2.lt;obtain⟨u9,q9b⟩:∃u,wB.cell? ⟨b,9,none⟩=some u:=⟨_,kk2.cell 9⟩;clear hs k1 kk2 k3 h4;first|(refine hK.q ?_ fun hh4=>?_)|(go_wp2_with fail;refine hK.q ?_ fun hh4=>?_)
       ·exact HK1.o
       clear hK K hh3;try simp only[Act.put,sA,sB,sC]
       refine tH 11 ?_ rfl ?_ (tH 12 ?_ rfl ?_ ?_);all_goals (try (
        intro w hSw;have jl:=hSw.lt;have jf:=hSw.frozen;have j0:=hSw.c 0;have j1:=hSw.c 1;have j2:=hSw.c 2;have j3:=hSw.c 3;have j4:=hSw.c 4;have j5:=hSw.c 5;have j6:=hSw.c 6;have j7:=hSw.c 7;try simp only[Act.put,sA,sB,sC]
        go_simp<;>(try with_reducible rfl)))
       try simp only[Act.put,sA,sB,sC]
       refine oH 13 rfl fun K hK=>?_
       go_simp;first|(refine hK.q ?_ fun hh5=>?_)|(go_wp2_with fail;refine hK.q ?_ fun hh5=>?_)
       ·exact HK3.o
       clear hK K hh4;try simp only[Act.put,sA,sB,sC]
       refine dH (NoPanic.normal ?_);go_wp2;exact⟨⟨k2+1,D',by omega,by go_num,HYY.o⟩,by simp[intOf];omega⟩
    ·obtain rfl:k2=n:=by omega
     have HZ:Hid (Sat ω wr (mcH b (PMc.new r L)*Y)):=h_ (by rw[←HNEW.o];exact mcH_to HR.o.right)
     clear HR HJO;go_wp2;go_ret;exact⟨b,rfl,HZ.o⟩
def ToShort (T:PTo):Prop:=T.reads.length≤1000∧T.cells.length≤1000
theorem toldOf_short {x:PAt}(h:AtFine x)(t:PTh)(p:Nat):ToShort (x.toldOf t p):=by
 obtain⟨dep,hi⟩:=h.it;have h1:=hi.vf.ok.order;have h2:=hi.vf.facts;refine⟨?_,?_⟩
 ·show(PVw.known x.v).length≤1000
  unfold PVw.known;rw[List.length_map];omega
 ·show(PAt.cells x).length≤1000
  unfold PAt.cells;split
  ·have:=hi.vf.logs.cells.1;omega
  ·simp
theorem again_past (t:PTh)(s:PSt):(t.again s).past=t.past:=by
 unfold PTh.again;simp only;split<;>rfl
theorem pause_past (t:PTh)(s:PSt)(d:Nat):(t.pause s d).past=t.past:=by
 unfold PTh.pause;simp only;split
 ·rw[again_past]
 ·rfl
theorem pauseOne_past (t:PTh)(s:PSt):(t.pauseOne s).past=t.past:=by
 unfold PTh.pauseOne;split
 ·rfl
 ·simp only;split
  ·rw[again_past]
  ·rfl
theorem wake_past (t:PTh)(s:PSt)(k v:Nat):(t.wake s k v).past=t.past:=by
 unfold PTh.wake;split
 ·rfl
 ·split
  ·split
   ·rw[again_past]
   ·split<;>rfl
  ·rfl
theorem ended_past (t:PTh)(s:PSt)(x:PAt)(d p:Nat):(t.ended s x d p).past=t.past++[x.toldOf t p]:=by
 unfold PTh.ended;simp only;split
 ·split
  ·rfl
  ·rw[pause_past]
 ·split
  ·split
   ·rw[again_past]
   ·rfl
  ·unfold PTh.following;rw[again_past]
theorem tell_past (t:PTh)(s:PSt)(a:PAns)(d p:Nat):(t.tell s a d p).past=t.past∨∃x t',t.state=1∧t.now=some x∧(t.tell s a d p).past=t.past++[(x.tell s a).toldOf t' p]:=by
 unfold PTh.tell;split
 ·rename_i h1;split
  ·exact .inl rfl
  ·rename_i x hx;simp only;split
   ·refine .inr ⟨x,{ t with now:=some (x.tell s a),born:=if((x.tell s a).begun&&!x.begun)=true then p else t.born },h1,hx,?_⟩
    rw[ended_past]
   ·exact .inl rfl
 ·unfold PTh.yield_;split
  ·exact .inl rfl
  ·rw[pause_past];exact .inl rfl
 ·exact .inl rfl
structure PastOk (M:PMc):Prop where
 all:∀(i:Nat) (t:PTh),M.thr[i]?=some t→∀T∈t.past,ToShort T
theorem PastOk.pick {M:PMc}(h:PastOk M)(hM:McFine M)(i d:Nat):PastOk (M.pick i d):=by
 obtain⟨s0,hs0⟩:=hM.set;obtain⟨f1,f2⟩:=held_fine s0;rw[←hs0] at f1 f2;unfold PMc.pick;cases ht:M.thr[i]? with
 |none=>exact h
 |some t =>
  have hlt:i<M.thr.length:=(List.getElem?_eq_some_iff.1 ht).1;obtain⟨hth,hme⟩:=hM.thr i t ht;have put:∀u,(∀T∈u.past,ToShort T)→∀(k:Nat) (v:PTh),(M.thr.set i u)[k]?=some v→∀T∈v.past,ToShort T:=fun u hu k v hv=>by
   by_cases e:k=i
   ·subst e;rw[List.getElem?_set_self hlt] at hv;obtain rfl:=Option.some.inj hv;exact hu
   ·rw[List.getElem?_set_ne (Ne.symm e)] at hv;exact h.all k v hv
  simp only;by_cases hd:t.next.2=false
  ·rw[if_pos hd];exact⟨put _ (by rw[pauseOne_past];exact h.all i t ht)⟩
  rw[if_neg hd];have hd':t.next.2=true:=by simpa using hd
  have hte:∀T∈(t.tell M.s (doC M.mem t.next.1).1 d (M.picks+1)).past,ToShort T:=by
   intro T hT;have e0:(doC M.mem t.next.1).1=(doM M.mem t.next.1).1:=rfl;rcases tell_past t M.s (doC M.mem t.next.1).1 d (M.picks+1) with e|⟨x,t',h1,hx,e⟩
   ·rw[e] at hT;exact h.all i t ht T hT
   ·rw[e] at hT;simp only[List.mem_append,List.mem_singleton] at hT;rcases hT with hT|rfl
    ·exact h.all i t ht T hT
    ·have hn:t.next=x.next:=by unfold PTh.next;rw[h1,hx];rfl
     rw[hn] at hd' ⊢;exact toldOf_short ((hth.now x hx).tell f1 hM.mem hd') _ _
  have hput:=put _ hte;split
  ·exact⟨hput⟩
  ·refine⟨fun k v hv=>?_⟩
   simp only[List.getElem?_mapIdx,Option.map_eq_some_iff] at hv;obtain⟨o,ho,rfl⟩:=hv;have q:=hput k o ho;split
   ·exact q
   ·rw[wake_past];exact q
theorem PastOk.new (s:PSt)(jobs:List (List (List PIns))):PastOk (PMc.new s jobs):=by
 refine⟨fun i t ht=>?_⟩
 simp only[PMc.new,List.getElem?_map,Option.map_eq_some_iff] at ht;obtain⟨k,hk,rfl⟩:=ht;unfold PTh.new;rw[again_past];intro T hT;cases hT
end Go.Proofs.YtfodmgaliclhfaaGreatDoor
