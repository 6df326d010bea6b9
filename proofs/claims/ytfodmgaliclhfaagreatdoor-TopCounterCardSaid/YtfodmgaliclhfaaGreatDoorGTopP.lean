/- Lemmas; no conditions. -/
import Derived.Test.YtfodmgaliclhfaaGreatDoorGMcMake
import Derived.Deep.CutBlock
import Derived.Deep.DeepCutAuto
import Derived.Test.YtfodmgaliclhfaaGreatDoorGThEnd
namespace Go.Proofs.YtfodmgaliclhfaaGreatDoor
set_option linter.unusedVariables false
set_option linter.unusedSimpArgs false
set_option maxRecDepth 100000
set_option maxHeartbeats 16000000
open Go.RowKit
theorem mc_new (ω w:World)(F:HP)(r:PSt)(A:Option Addr)(c n:Nat)(L:List (List (List PIns)))(hn:L.length=n)(hn4:n≤4)(hL:∀l∈L,l.length≤6∧∀p∈l,p.length≤40∧okP p=true)(vs:List (Option Addr×Nat))(hvs:vs.length=L.length)(h:Sat ω w (jjX A c vs L*F)):
  Calls Tryz.prog 10 #[.agg #[.int .i64 r.words,.int .i64 r.stripes,.int .i64 r.wide,.int .i64 r.threads,.int .u64 r.start,.int .i64 r.spins,.int .i64 r.writes,.int .i64 r.fuel],.slice A n c] w fun e w'=>∃b,e=.returned (.pointer (some ⟨b,0,none⟩))∧Sat ω w' (mcH b (PMc.new r L)*(jjX A c vs L*F)):=by
 obtain⟨s,hs⟩:∃s,({ r with threads:=n }:PSt).held=s:=⟨_,rfl⟩
 have hkept:s.kept:=by rw[←hs];exact held_kept_ _
 obtain⟨T,hT⟩:∃T,max 1 n=T:=⟨_,rfl⟩;have hthr:s.threads=T:=by rw[←hs];simp only[PSt.held];omega
 have hnew:mcK s L T=PMc.new r L:=by
  have:=mcK_new r L (by omega)
  rw[hn,hs,hT] at this;exact this
 have hcap:(n:Int)≤(c:Int):=by
  have h9:=h;unfold jjX at h9
  have:=row_cap h9.assoc
  omega
 obtain⟨Y,hY⟩:∃Y:HP,Y=jjX A c vs L*F:=⟨_,rfl⟩;obtain⟨N,hN⟩:∃N,w.heap.size=N:=⟨_,rfl⟩;rw[←hY] at h ⊢;have HB0:Hid (Sat ω (w.alloc (.cells #[.int .i64 r.words,.int .i64 r.stripes,.int .i64 r.wide,.int .i64 r.threads,.int .u64 r.start,.int .i64 r.spins,.int .i64 r.writes,.int .i64 r.fuel] 39)) (bk N 39 #[.int .i64 r.words,.int .i64 r.stripes,.int .i64 r.wide,.int .i64 r.threads,.int .u64 r.start,.int .i64 r.spins,.int .i64 r.writes,.int .i64 r.fuel]*Y)):=h_ (by rw[←hN];exact h.new _ _)
 have HB1:Hid (Sat ω (w.alloc (.cells #[.int .i64 r.words,.int .i64 r.stripes,.int .i64 r.wide,.int .i64 n,.int .u64 r.start,.int .i64 r.spins,.int .i64 r.writes,.int .i64 r.fuel] 39)) (bk N 39 #[.int .i64 r.words,.int .i64 r.stripes,.int .i64 r.wide,.int .i64 n,.int .u64 r.start,.int .i64 r.spins,.int .i64 r.writes,.int .i64 r.fuel]*Y)):=h_ (by rw[←hN];exact h.new _ _)
 have HHE:Hid (Calls Tryz.prog 32 #[.agg #[.int .i64 r.words,.int .i64 r.stripes,.int .i64 r.wide,.int .i64 n,.int .u64 r.start,.int .i64 r.spins,.int .i64 r.writes,.int .i64 r.fuel]] (w.alloc (.cells #[.int .i64 r.words,.int .i64 r.stripes,.int .i64 r.wide,.int .i64 n,.int .u64 r.start,.int .i64 r.spins,.int .i64 r.writes,.int .i64 r.fuel] 39)) fun e w'=>e=.returned (.agg #[.int .i64 s.words,.int .i64 s.stripes,.int .i64 s.wide,.int .i64 s.threads,.int .u64 s.start,.int .i64 s.spins,.int .i64 s.writes,.int .i64 s.fuel])∧Sat ω w' (bk N 39 #[.int .i64 r.words,.int .i64 r.stripes,.int .i64 r.wide,.int .i64 n,.int .u64 r.start,.int .i64 r.spins,.int .i64 r.writes,.int .i64 r.fuel]*Y)):=h_ (by
  have q:=hs;refine(at_held _ (r.words:Int) (r.stripes:Int) (r.wide:Int) (n:Int) (r.start:Int) (r.spins:Int) (r.writes:Int) (r.fuel:Int) (s.words:Int) (s.stripes:Int) (s.wide:Int) (s.threads:Int) (s.start:Int) (s.spins:Int) (s.writes:Int) (s.fuel:Int) ?_ ?_ ?_ ?_ ?_ ?_ ?_ ?_).mono ?_;all_goals first
   |(rw[←hs];simp only[PSt.held];omega)
   |(rintro e w2 ⟨rfl,ho⟩;exact⟨rfl,HB1.o.nob ho⟩))
 have HB2:Hid (∀w1,Sat ω w1 (bk N 39 #[.int .i64 r.words,.int .i64 r.stripes,.int .i64 r.wide,.int .i64 n,.int .u64 r.start,.int .i64 r.spins,.int .i64 r.writes,.int .i64 r.fuel]*Y)→Sat ω ((((((((w1.setCell ⟨N,0,none⟩ (.int .i64 s.words)).setCell ⟨N,1,none⟩ (.int .i64 s.stripes)).setCell ⟨N,2,none⟩ (.int .i64 s.wide)).setCell ⟨N,3,none⟩ (.int .i64 s.threads)).setCell ⟨N,4,none⟩ (.int .u64 s.start)).setCell ⟨N,5,none⟩ (.int .i64 s.spins)).setCell ⟨N,6,none⟩ (.int .i64 s.writes)).setCell ⟨N,7,none⟩ (.int .i64 s.fuel)) (bk N 39 #[.int .i64 s.words,.int .i64 s.stripes,.int .i64 s.wide,.int .i64 s.threads,.int .u64 s.start,.int .i64 s.spins,.int .i64 s.writes,.int .i64 s.fuel]*Y)):=h_ (fun w1 h1=>((((((((h1.put 0 (.int .i64 s.words) (cs':=#[.int .i64 s.words,.int .i64 r.stripes,.int .i64 r.wide,.int .i64 n,.int .u64 r.start,.int .i64 r.spins,.int .i64 r.writes,.int .i64 r.fuel]) rfl).put 1 (.int .i64 s.stripes) (cs':=#[.int .i64 s.words,.int .i64 s.stripes,.int .i64 r.wide,.int .i64 n,.int .u64 r.start,.int .i64 r.spins,.int .i64 r.writes,.int .i64 r.fuel]) rfl).put 2 (.int .i64 s.wide) (cs':=#[.int .i64 s.words,.int .i64 s.stripes,.int .i64 s.wide,.int .i64 n,.int .u64 r.start,.int .i64 r.spins,.int .i64 r.writes,.int .i64 r.fuel]) rfl).put 3 (.int .i64 s.threads) (cs':=#[.int .i64 s.words,.int .i64 s.stripes,.int .i64 s.wide,.int .i64 s.threads,.int .u64 r.start,.int .i64 r.spins,.int .i64 r.writes,.int .i64 r.fuel]) rfl).put 4 (.int .u64 s.start) (cs':=#[.int .i64 s.words,.int .i64 s.stripes,.int .i64 s.wide,.int .i64 s.threads,.int .u64 s.start,.int .i64 r.spins,.int .i64 r.writes,.int .i64 r.fuel]) rfl).put 5 (.int .i64 s.spins) (cs':=#[.int .i64 s.words,.int .i64 s.stripes,.int .i64 s.wide,.int .i64 s.threads,.int .u64 s.start,.int .i64 s.spins,.int .i64 r.writes,.int .i64 r.fuel]) rfl).put 6 (.int .i64 s.writes) (cs':=#[.int .i64 s.words,.int .i64 s.stripes,.int .i64 s.wide,.int .i64 s.threads,.int .u64 s.start,.int .i64 s.spins,.int .i64 s.writes,.int .i64 r.fuel]) rfl).put 7 (.int .i64 s.fuel) (cs':=#[.int .i64 s.words,.int .i64 s.stripes,.int .i64 s.wide,.int .i64 s.threads,.int .u64 s.start,.int .i64 s.spins,.int .i64 s.writes,.int .i64 s.fuel]) rfl))
 have HBK:Hid (∀w1 cs,Sat ω w1 (bk N 39 cs*Y)→Blk w1 N 39 cs):=h_ (fun w1 cs h1=>h1.blk)
 have HMN:Hid (∀w1,Sat ω w1 (bk N 39 #[.int .i64 s.words,.int .i64 s.stripes,.int .i64 s.wide,.int .i64 s.threads,.int .u64 s.start,.int .i64 s.spins,.int .i64 s.writes,.int .i64 s.fuel]*Y)→Calls Tryz.prog 33 #[.agg #[.int .i64 s.words,.int .i64 s.stripes,.int .i64 s.wide,.int .i64 s.threads,.int .u64 s.start]] w1 fun e w'=>∃mb,e=.returned (.pointer (some ⟨mb,0,none⟩))∧Sat ω w' (bk N 39 #[.int .i64 s.words,.int .i64 s.stripes,.int .i64 s.wide,.int .i64 s.threads,.int .u64 s.start,.int .i64 s.spins,.int .i64 s.writes,.int .i64 s.fuel]*(memH (shOf s) mb (mem0 s)*Y))∧BoxS N #[.int .i64 s.words,.int .i64 s.stripes,.int .i64 s.wide,.int .i64 s.threads,.int .u64 s.start,.int .i64 s.spins,.int .i64 s.writes,.int .i64 s.fuel] w'):=h_ (fun w1 h1=>by
  refine(mem_new ω w1 _ s hkept h1).mono ?_;rintro e w2 ⟨mb,rfl,h2⟩;exact⟨mb,rfl,h2.swap,h2.swap.blk⟩)
 have HKE:=h_ hkept;have HNEW:=h_ hnew;have HTHR:=h_ hthr;have hmin:min (n:Int) 4=(n:Int):=by omega
 clear h hs hkept hnew hthr;go_enter Tryz.func10,Tryz.ntmps10;go_wp2_with (go_at_call 32;refine(HHE.o).mono ?_;rintro e w1 ⟨rfl,hs⟩;have kN:=HBK.o _ _ hs;have nf:=kN.frozen;have nl:=kN.lt;have n0:=kN.c 0;have n1:=kN.c 1;have n2:=kN.c 2;have n3:=kN.c 3;have n4:=kN.c 4;have n5:=kN.c 5;have n6:=kN.c 6;have n7:=kN.c 7;have HH2:=h_ (HB2.o _ hs);clear hs kN);generalize ((((((((w1.setCell ⟨N,0,none⟩ (.int .i64 s.words)).setCell ⟨N,1,none⟩ (.int .i64 s.stripes)).setCell ⟨N,2,none⟩ (.int .i64 s.wide)).setCell ⟨N,3,none⟩ (.int .i64 s.threads)).setCell ⟨N,4,none⟩ (.int .u64 s.start)).setCell ⟨N,5,none⟩ (.int .i64 s.spins)).setCell ⟨N,6,none⟩ (.int .i64 s.writes)).setCell ⟨N,7,none⟩ (.int .i64 s.fuel))=wC at *
 have HD:=h_ (HH2.o.drewN 1);have HS0:BoxS N #[.int .i64 s.words,.int .i64 s.stripes,.int .i64 s.wide,.int .i64 s.threads,.int .u64 s.start,.int .i64 s.spins,.int .i64 s.writes,.int .i64 s.fuel] wC.drew:=HBK.o _ _ HD.o;clear n0 n1 n2 n3 n4 n5 n6 n7 nf nl HB2 HHE HB0 HB1;refine gN (BoxS N #[.int .i64 s.words,.int .i64 s.stripes,.int .i64 s.wide,.int .i64 s.threads,.int .u64 s.start,.int .i64 s.spins,.int .i64 s.writes,.int .i64 s.fuel]) HS0 fun hh0=>?_
 refine tH 0 ?_ rfl ?_ (tH 1 ?_ rfl ?_ (tH 2 ?_ rfl ?_ ?_));all_goals (try (
  intro w hSw;have jl:=hSw.lt;have jf:=hSw.frozen;have j0:=hSw.c 0;have j1:=hSw.c 1;have j2:=hSw.c 2;have j3:=hSw.c 3;have j4:=hSw.c 4;have j5:=hSw.c 5;have j6:=hSw.c 6;have j7:=hSw.c 7;try simp only[sP]
  go_simp<;>(try with_reducible rfl)))
 try simp only[sP]
 refine oH 3 rfl fun K hK=>?_
 go_simp;go_at_call 33;refine(HMN.o _ HD.o).mono ?_;rintro e wL ⟨mb,rfl,hs,hz⟩;have HL:=h_ hs;have ZL:=h_ hz;clear hs hz;(try go_wp2_with fail);refine hK.q ?_ fun hh1=>?_
 ·exact ZL.out
 clear hK K hh0;try simp only[sP]
 refine tH 4 ?_ rfl ?_ ?_;all_goals (try (
  intro w hSw;have jl:=hSw.lt;have jf:=hSw.frozen;have j0:=hSw.c 0;have j1:=hSw.c 1;have j2:=hSw.c 2;have j3:=hSw.c 3;have j4:=hSw.c 4;have j5:=hSw.c 5;have j6:=hSw.c 6;have j7:=hSw.c 7;go_simp<;>(try with_reducible rfl)))
 try simp only[sP]
 refine oH 5 rfl fun K hK=>?_
 go_simp;(try go_wp2_with fail);refine hK.q ?_ fun hh2=>?_
 ·exact(ZL.out:Blk _ _ _ _).alloc _
 clear hK K hh1;try simp only[sP]
 refine tH 6 ?_ rfl ?_ ?_;all_goals (try (
  intro w hSw;have jl:=hSw.lt;have jf:=hSw.frozen;have j0:=hSw.c 0;have j1:=hSw.c 1;have j2:=hSw.c 2;have j3:=hSw.c 3;have j4:=hSw.c 4;have j5:=hSw.c 5;have j6:=hSw.c 6;have j7:=hSw.c 7;go_simp<;>(try with_reducible rfl)))
 try simp only[sP]
 refine dN ?_;have HMX:Hid (Sat ω (wL.alloc (.cells #[.int .i64 s.words,.int .i64 s.stripes,.int .i64 s.wide,.int .i64 s.threads,.int .u64 s.start,.int .i64 s.spins,.int .i64 s.writes,.int .i64 s.fuel,.pointer (some ⟨mb,0,none⟩),.slice none 0 0,.int .i64 0,.int .i64 0,.int .i64 0,.int .u64 0,.int .u64 0,.int .u64 0,.bool false,.int .i64 0,.int .u64 0,.bool false,.int .i64 0,.bool false] 97)) (bk N 39 #[.int .i64 s.words,.int .i64 s.stripes,.int .i64 s.wide,.int .i64 s.threads,.int .u64 s.start,.int .i64 s.spins,.int .i64 s.writes,.int .i64 s.fuel]*(bk wL.heap.size 97 #[.int .i64 s.words,.int .i64 s.stripes,.int .i64 s.wide,.int .i64 s.threads,.int .u64 s.start,.int .i64 s.spins,.int .i64 s.writes,.int .i64 s.fuel,.pointer (some ⟨mb,0,none⟩),.slice none 0 0,.int .i64 0,.int .i64 0,.int .i64 0,.int .u64 0,.int .u64 0,.int .u64 0,.bool false,.int .i64 0,.int .u64 0,.bool false,.int .i64 0,.bool false]*(memH (shOf s) mb (mem0 s)*Y)))):=h_ (HL.o.new _ _).swap;generalize (wL.alloc (.cells #[.int .i64 s.words,.int .i64 s.stripes,.int .i64 s.wide,.int .i64 s.threads,.int .u64 s.start,.int .i64 s.spins,.int .i64 s.writes,.int .i64 s.fuel,.pointer (some ⟨mb,0,none⟩),.slice none 0 0,.int .i64 0,.int .i64 0,.int .i64 0,.int .u64 0,.int .u64 0,.int .u64 0,.bool false,.int .i64 0,.int .u64 0,.bool false,.int .i64 0,.bool false] 97))=wM at *
 generalize wL.heap.size=b at *
 have kX:=HMX.o.blk;have xf:=kX.frozen;have xl:=kX.lt;obtain⟨W,hW⟩:∃W,s.words=W:=⟨_,rfl⟩;have x0:wM.cell? ⟨N,0,none⟩=some (.int .i64 W):=by rw[←hW];exact kX.cell 0
 have hW1:32≤W:=by rw[←hW];exact HKE.o.w1
 have hW2:W≤256:=by rw[←hW];exact HKE.o.w2
 have HFR:Hid (Calls Tryz.prog 34 #[.int .i64 W] wM fun e w'=>∃g,e=.returned (.slice (some ⟨g,0,none⟩) W W)∧Sat ω w' (bk g 22 (vU ((List.replicate W 0).set 5 14)).toArray*(bk N 39 #[.int .i64 s.words,.int .i64 s.stripes,.int .i64 s.wide,.int .i64 s.threads,.int .u64 s.start,.int .i64 s.spins,.int .i64 s.writes,.int .i64 s.fuel]*(bk b 97 #[.int .i64 s.words,.int .i64 s.stripes,.int .i64 s.wide,.int .i64 s.threads,.int .u64 s.start,.int .i64 s.spins,.int .i64 s.writes,.int .i64 s.fuel,.pointer (some ⟨mb,0,none⟩),.slice none 0 0,.int .i64 0,.int .i64 0,.int .i64 0,.int .u64 0,.int .u64 0,.int .u64 0,.bool false,.int .i64 0,.int .u64 0,.bool false,.int .i64 0,.bool false]*(memH (shOf s) mb (mem0 s)*Y))))):=h_ (by
  exact fresh_any ω wM _ HMX.o W hW1 hW2)
 obtain⟨m1,hm1⟩:∃m1,(doC (mem0 s) ⟨2,5,0,14,PLk.zero,PLk.zero⟩).2=m1:=⟨_,rfl⟩;have HDO:Hid (∀k w1 P,k=5→Sat ω w1 (P*(memH (shOf s) mb (mem0 s)*Y))→Calls Tryz.prog 35 #[.pointer (some ⟨mb,0,none⟩),.agg #[.int .i64 2,.int .i64 ((k:Nat):Int),.int .u64 0,.int .u64 14,.int .u64 0,.bool false,.int .i64 0,.int .u64 0,.bool false,.int .i64 0]] w1 fun e w'=>(∃v,e=.returned v)∧Sat ω w' (P*(memH (shOf s) mb m1*Y))):=h_ (fun k w1 P hk h9=>by
  subst hk;have hk2:=HKE.o.s2;have hk3:=HKE.o.t2;have hfit:(mem0 s).fits:=⟨by simp[mem0];omega,by simp[mem0];omega,by simp[mem0];omega⟩
  refine(mem_do ω w1 _ (shOf s) mb (mem0 s) h9.swap hfit ⟨2,5,0,14,PLk.zero,PLk.zero⟩ (by simp) (by simp)).mono ?_
  rintro e w2 ⟨rfl,h10⟩;rw[hm1] at h10;exact⟨⟨_,rfl⟩,h10.swap⟩)
 have HWW:=h_ hW;clear ZL HL HMN HD HS0 hW kX HMX;go_wp2_with (go_at_call 34;refine(HFR.o).mono ?_;rintro e w1 ⟨g,rfl,hs⟩;have HF:=h_ hs;clear hs);go_loopw [6,7,32] (fun _ _ c wr=>∃k:Nat,k≤W∧c=.int .i64 k∧Hid (Sat ω wr (bk g 22 (vU ((List.replicate W 0).set 5 14)).toArray*(bk N 39 #[.int .i64 s.words,.int .i64 s.stripes,.int .i64 s.wide,.int .i64 s.threads,.int .u64 s.start,.int .i64 s.spins,.int .i64 s.writes,.int .i64 s.fuel]*(bk b 97 #[.int .i64 s.words,.int .i64 s.stripes,.int .i64 s.wide,.int .i64 s.threads,.int .u64 s.start,.int .i64 s.spins,.int .i64 s.writes,.int .i64 s.fuel,.pointer (some ⟨mb,0,none⟩),.slice none 0 0,.int .i64 0,.int .i64 0,.int .i64 0,.int .u64 0,.int .u64 0,.int .u64 0,.bool false,.int .i64 0,.int .u64 0,.bool false,.int .i64 0,.bool false]*(memH (shOf s) mb (if k≤5 then mem0 s else m1)*Y)))))) (fun _ _ c _=>W-(intOf c).toNat)
 case atStart=>exact⟨0,by omega,rfl,HF.o⟩
 case round =>
  obtain⟨k,hk,rfl,HA⟩:=hrel;by_cases hlt:k<W
  ·have kG:=HA.o.blk;have gf:=kG.frozen;have gl:=kG.lt;have kM:=HA.o.right.right.blk;have mf:=kM.frozen;have ml:=kM.lt;have q8:wr.cell? ⟨b,8,none⟩=some (.pointer (some ⟨mb,0,none⟩)):=kM.cell 8;have gc:wr.cell? ⟨g,k,none⟩=some (.int .u64 ((((List.replicate W 0).set 5 14).getD k 0:Nat):Int)):=by
    have h9:=kG.cell k;rw[h9];have h10:=@vU_at ((List.replicate W 0).set 5 14) k (by simp;omega)
    simpa using h10
   by_cases hk5:k=5
   ·have e14:((List.replicate W 0).set 5 14).getD k 0=14:=by
     rw[hk5,gD,List.getElem?_set_self (by simp;omega)];rfl
    rw[e14] at gc;have gc2:wr.cell? ⟨g,k,none⟩=some (.int .u64 14):=gc;have HD5:Hid (∀w1,w1=wr→Calls Tryz.prog 35 #[.pointer (some ⟨mb,0,none⟩),.agg #[.int .i64 2,.int .i64 ((k:Nat):Int),.int .u64 0,.int .u64 14,.int .u64 0,.bool false,.int .i64 0,.int .u64 0,.bool false,.int .i64 0]] w1 fun e w'=>(∃v,e=.returned v)∧Sat ω w' (bk g 22 (vU ((List.replicate W 0).set 5 14)).toArray*(bk N 39 #[.int .i64 s.words,.int .i64 s.stripes,.int .i64 s.wide,.int .i64 s.threads,.int .u64 s.start,.int .i64 s.spins,.int .i64 s.writes,.int .i64 s.fuel]*(bk b 97 #[.int .i64 s.words,.int .i64 s.stripes,.int .i64 s.wide,.int .i64 s.threads,.int .u64 s.start,.int .i64 s.spins,.int .i64 s.writes,.int .i64 s.fuel,.pointer (some ⟨mb,0,none⟩),.slice none 0 0,.int .i64 0,.int .i64 0,.int .i64 0,.int .u64 0,.int .u64 0,.int .u64 0,.bool false,.int .i64 0,.int .u64 0,.bool false,.int .i64 0,.bool false]*(memH (shOf s) mb (if k+1≤5 then mem0 s else m1)*Y))))):=h_ (fun w1 e1=>by
     subst e1;have h9:=HA.o;rw[if_pos (by omega)] at h9
     rw[if_neg (by omega)]
     refine(HDO.o k w1 (bk g 22 (vU ((List.replicate W 0).set 5 14)).toArray*(bk N 39 #[.int .i64 s.words,.int .i64 s.stripes,.int .i64 s.wide,.int .i64 s.threads,.int .u64 s.start,.int .i64 s.spins,.int .i64 s.writes,.int .i64 s.fuel]*bk b 97 #[.int .i64 s.words,.int .i64 s.stripes,.int .i64 s.wide,.int .i64 s.threads,.int .u64 s.start,.int .i64 s.spins,.int .i64 s.writes,.int .i64 s.fuel,.pointer (some ⟨mb,0,none⟩),.slice none 0 0,.int .i64 0,.int .i64 0,.int .i64 0,.int .u64 0,.int .u64 0,.int .u64 0,.bool false,.int .i64 0,.int .u64 0,.bool false,.int .i64 0,.bool false])) hk5 (h9.perm (by ac_rfl))).mono ?_
     rintro e w2 ⟨he,h10⟩;exact⟨he,h10.perm (by ac_rfl)⟩)
    clear gc kG kM hk5 e14;go_wp2_with (go_at_call 35;refine(HD5.o _ rfl).mono ?_;rintro e w2 ⟨⟨v9,rfl⟩,hs⟩;have HZ:=h_ hs;clear hs);exact⟨⟨k+1,by omega,by go_num,HZ.o⟩,by simp[intOf];omega⟩
   ·have e0:((List.replicate W 0).set 5 14).getD k 0=0:=by
     rw[gD,List.getElem?_set_ne (by omega),List.getElem?_replicate,if_pos hlt];rfl
    rw[e0] at gc;have gc2:wr.cell? ⟨g,k,none⟩=some (.int .u64 0):=gc;have HZ:Hid (Sat ω wr (bk g 22 (vU ((List.replicate W 0).set 5 14)).toArray*(bk N 39 #[.int .i64 s.words,.int .i64 s.stripes,.int .i64 s.wide,.int .i64 s.threads,.int .u64 s.start,.int .i64 s.spins,.int .i64 s.writes,.int .i64 s.fuel]*(bk b 97 #[.int .i64 s.words,.int .i64 s.stripes,.int .i64 s.wide,.int .i64 s.threads,.int .u64 s.start,.int .i64 s.spins,.int .i64 s.writes,.int .i64 s.fuel,.pointer (some ⟨mb,0,none⟩),.slice none 0 0,.int .i64 0,.int .i64 0,.int .i64 0,.int .u64 0,.int .u64 0,.int .u64 0,.bool false,.int .i64 0,.int .u64 0,.bool false,.int .i64 0,.bool false]*(memH (shOf s) mb (if k+1≤5 then mem0 s else m1)*Y))))):=h_ (by
     have h9:=HA.o;have e:(if k+1≤5 then mem0 s else m1)=(if k≤5 then mem0 s else m1):=by
      by_cases h5:k<5
      ·rw[if_pos (by omega),if_pos (by omega)]
      ·rw[if_neg (by omega),if_neg (by omega)]
     rw[e];exact h9)
    clear gc kG kM hk5 e0;go_wp2;exact⟨⟨k+1,by omega,by go_num,HZ.o⟩,by simp[intOf];omega⟩
  ·have HM0:Hid (Sat ω wr (bk N 39 #[.int .i64 s.words,.int .i64 s.stripes,.int .i64 s.wide,.int .i64 s.threads,.int .u64 s.start,.int .i64 s.spins,.int .i64 s.writes,.int .i64 s.fuel]*(mcX b (mcK s L 0) ⟨mb,none,0,[]⟩*Y))):=h_ (by
    have h9:=HA.o.right;rw[if_neg (by omega)] at h9
    rw[←hm1] at h9;exact(mcX_zero (h9.perm (by ac_rfl:_=bk b 97 #[.int .i64 s.words,.int .i64 s.stripes,.int .i64 s.wide,.int .i64 s.threads,.int .u64 s.start,.int .i64 s.spins,.int .i64 s.writes,.int .i64 s.fuel,.pointer (some ⟨mb,0,none⟩),.slice none 0 0,.int .i64 0,.int .i64 0,.int .i64 0,.int .u64 0,.int .u64 0,.int .u64 0,.bool false,.int .i64 0,.int .u64 0,.bool false,.int .i64 0,.bool false]*(memH (shOf s) mb (doC (mem0 s) ⟨2,5,0,14,PLk.zero,PLk.zero⟩).2*(bk N 39 #[.int .i64 s.words,.int .i64 s.stripes,.int .i64 s.wide,.int .i64 s.threads,.int .u64 s.start,.int .i64 s.spins,.int .i64 s.writes,.int .i64 s.fuel]*Y)))):Sat ω wr _).swap)
   clear HA HDO HFR HF;have HJO:Hid (∀k,k<T→∃(l:List (List PIns)) (m:Nat) (B:Option Addr) (d:Nat),l.length=m∧L.getD k []=l∧(k<n→∀w1 G,Sat ω w1 (G*Y)→∃ga,A=some ⟨ga,0,none⟩∧ga<w1.heap.size∧w1.cell? ⟨ga,k,none⟩=some (.slice B m d))∧(¬k<n→B=none∧m=0∧d=0)∧∀w1 P,Sat ω w1 (P*Y)→Calls Tryz.prog 36 #[.int .i64 k,.agg #[.int .i64 s.words,.int .i64 s.stripes,.int .i64 s.wide,.int .i64 s.threads,.int .u64 s.start,.int .i64 s.spins,.int .i64 s.writes,.int .i64 s.fuel],.slice B m d] w1 fun e w'=>∃tb,e=.returned (.pointer (some ⟨tb,0,none⟩))∧Sat ω w' (thH tb s (PTh.new k s l)*(P*Y))):=h_ (fun k hk=>by
    by_cases hkn:k<n
    ·obtain⟨B,d,R,h3,h4⟩:=jjAll_at vs L hvs k (by omega)
     obtain⟨l,hl⟩:∃l,L.getD k []=l:=⟨_,rfl⟩;have hpk:=hL (L.getD k []) (by rw[gD,List.getElem?_eq_getElem (by omega)];exact List.getElem_mem _)
     rw[hl] at h3 h4 hpk;refine⟨l,l.length,B,d,rfl,hl,fun _ w1 G h1=>?_,fun h=>absurd hkn h,fun w1 P h1=>?_⟩
     ·have h2:Sat ω w1 (row 29 1 (.slice A L.length c) L.length (jjV vs L)*(jjAll vs L*F*G)):=h1.perm (by rw[hY];unfold jjX;ac_rfl)
      exact h2.rowCell h3
     ·have h2:Sat ω w1 (jobsH B d l*(R*(P*(F*row 29 1 (.slice A L.length c) L.length (jjV vs L))))):=h1.perm (by rw[hY];unfold jjX;rw[h4];ac_rfl)
      refine(th_new ω w1 _ k s HKE.o (by rw[HTHR.o];omega) B d l hpk.1 hpk.2 h2).mono ?_
      rintro e w2 ⟨tb,rfl,h5⟩;refine⟨tb,rfl,h5.perm ?_⟩;rw[hY];unfold jjX;rw[h4];ac_rfl
    ·have hl:L.getD k []=[]:=by rw[gD,List.getElem?_eq_none (by omega)];rfl
     refine⟨[],0,none,0,rfl,hl,fun h=>absurd h hkn,fun _=>⟨rfl,rfl,rfl⟩,fun w1 P h1=>?_⟩
     refine(th_new ω w1 _ k s HKE.o (by rw[HTHR.o];omega) none 0 [] (Nat.zero_le _) (fun p hp=>by cases hp) (jobsH_nil h1)).mono ?_
     rintro e w2 ⟨tb,rfl,h5⟩;exact⟨tb,rfl,h5.swap.right⟩)
   obtain⟨i0,hi0,hz⟩:=Option.map_eq_some_iff.1 infoThp_;simp only[Prod.mk.injEq] at hz;obtain⟨hz0,hz1,hz2⟩:=hz;have HI:=h_ hi0;have HZ0:=h_ hz0;have HZ1:=h_ hz1;have HZ2:=h_ hz2;have kX:=HM0.o.blk;have yf:=kX.frozen;have yl:=kX.lt;have y3:wr.cell? ⟨N,3,none⟩=some (.int .i64 T):=by have h9:=kX.c 3;rw[HTHR.o] at h9;exact h9
   clear hi0 hz0 hz1 hz2 kX hY hL hvs;go_wp2;go_loopw [8,9,51] (fun _ _ c wr=>∃(k:Nat) (D:McD),k≤T∧c=.int .i64 k∧Hid (Sat ω wr (bk N 39 #[.int .i64 s.words,.int .i64 s.stripes,.int .i64 s.wide,.int .i64 s.threads,.int .u64 s.start,.int .i64 s.spins,.int .i64 s.writes,.int .i64 s.fuel]*(mcX b (mcK s L k) D*Y)))) (fun _ _ c _=>T-(intOf c).toNat)
   case atStart=>exact⟨0,_,by omega,rfl,HM0.o⟩
   case round =>
    obtain⟨k2,D,hk2,rfl,HR⟩:=hrel;by_cases hlt2:k2<T
    ·obtain⟨l,m,B,d,hlm,hll,hJ,hN0,hC⟩:=HJO.o k2 hlt2;have HJ:=h_ fun h=>hJ h wr _ (HR.o.perm (by ac_rfl:_=(bk N 39 #[.int .i64 s.words,.int .i64 s.stripes,.int .i64 s.wide,.int .i64 s.threads,.int .u64 s.start,.int .i64 s.spins,.int .i64 s.writes,.int .i64 s.fuel]*mcX b (mcK s L k2) D)*Y))
     have HN0:=h_ hN0;have HTD:=h_ (HR.o.drewN 1);have HNW:Hid (∀w1,Sat ω w1 (bk N 39 #[.int .i64 s.words,.int .i64 s.stripes,.int .i64 s.wide,.int .i64 s.threads,.int .u64 s.start,.int .i64 s.spins,.int .i64 s.writes,.int .i64 s.fuel]*(mcX b (mcK s L k2) D*Y))→Calls Tryz.prog 36 #[.int .i64 k2,.agg #[.int .i64 s.words,.int .i64 s.stripes,.int .i64 s.wide,.int .i64 s.threads,.int .u64 s.start,.int .i64 s.spins,.int .i64 s.writes,.int .i64 s.fuel],.slice B m d] w1 fun e w'=>∃tb,e=.returned (.pointer (some ⟨tb,0,none⟩))∧Sat ω w' (bk N 39 #[.int .i64 s.words,.int .i64 s.stripes,.int .i64 s.wide,.int .i64 s.threads,.int .u64 s.start,.int .i64 s.spins,.int .i64 s.writes,.int .i64 s.fuel]*(thH tb s (PTh.new k2 s (L.getD k2 []))*(mcX b (mcK s L k2) D*Y)))∧BoxS N #[.int .i64 s.words,.int .i64 s.stripes,.int .i64 s.wide,.int .i64 s.threads,.int .u64 s.start,.int .i64 s.spins,.int .i64 s.writes,.int .i64 s.fuel] w'∧b<w'.heap.size∧w'.cell? ⟨b,9,none⟩=some (.slice D.tA k2 D.tc)):=h_ (fun w1 h1=>by
      refine(hC w1 (bk N 39 #[.int .i64 s.words,.int .i64 s.stripes,.int .i64 s.wide,.int .i64 s.threads,.int .u64 s.start,.int .i64 s.spins,.int .i64 s.writes,.int .i64 s.fuel]*mcX b (mcK s L k2) D) (h1.perm (by ac_rfl))).mono ?_
      rintro e w2 ⟨tb,rfl,h2⟩;rw[hll];have h3:Sat ω w2 (bk N 39 #[.int .i64 s.words,.int .i64 s.stripes,.int .i64 s.wide,.int .i64 s.threads,.int .u64 s.start,.int .i64 s.spins,.int .i64 s.writes,.int .i64 s.fuel]*(thH tb s (PTh.new k2 s l)*(mcX b (mcK s L k2) D*Y))):=h2.perm (by ac_rfl)
      have h4:=(mcX_open h3.right.right).2.blk;refine⟨tb,rfl,h3,h3.blk,h4.lt,?_⟩;rw[h4.cell 9];show some (Value.slice D.tA (mcK s L k2).thr.length D.tc)=_
      have e:(mcK s L k2).thr.length=k2:=by simp[mcK]
      rw[e])
     have k4:=(mcX_open HTD.o.right).2.blk;have lb:=k4.lt;have fb:=k4.frozen;have lbw:b<wr.heap.size:=lb;have q9:wr.drew.cell? ⟨b,9,none⟩=some (.slice D.tA k2 D.tc):=by
      have h9:=k4.c 9;have e:(mcK s L k2).thr.length=k2:=by simp[mcK]
      rw[e] at h9;exact h9
     have HPJ:Hid (∀w1 tb,Sat ω w1 (bk N 39 #[.int .i64 s.words,.int .i64 s.stripes,.int .i64 s.wide,.int .i64 s.threads,.int .u64 s.start,.int .i64 s.spins,.int .i64 s.writes,.int .i64 s.fuel]*(thH tb s (PTh.new k2 s (L.getD k2 []))*(mcX b (mcK s L k2) D*Y)))→Sat ω w1 (row 102 1 (.slice D.tA k2 D.tc) k2 (D.bs.map pV)*(bk b 97 (mcC (mcK s L k2) D)*(memH (shOf s) D.mb (mcK s L k2).mem*(thAll s D.bs (mcK s L k2).thr*(thH tb s (PTh.new k2 s (L.getD k2 []))*(bk N 39 #[.int .i64 s.words,.int .i64 s.stripes,.int .i64 s.wide,.int .i64 s.threads,.int .u64 s.start,.int .i64 s.spins,.int .i64 s.writes,.int .i64 s.fuel]*Y))))))):=h_ (fun w1 tb h1=>(mcX_row (h1.perm (by ac_rfl:_=mcX b (mcK s L k2) D*(thH tb s (PTh.new k2 s (L.getD k2 []))*(bk N 39 #[.int .i64 s.words,.int .i64 s.stripes,.int .i64 s.wide,.int .i64 s.threads,.int .u64 s.start,.int .i64 s.spins,.int .i64 s.writes,.int .i64 s.fuel]*Y))))).2)
     have hDl:=(mcX_row HTD.o.right).1;have HFJ:Hid (∀w1 A' c' tb,Sat ω w1 (row 102 1 (.slice A' (k2+1) c') (k2+1) (D.bs.map pV++[.pointer (some ⟨tb,0,none⟩)])*(bk b 97 (mcC (mcK s L k2) D)*(memH (shOf s) D.mb (mcK s L k2).mem*(thAll s D.bs (mcK s L k2).thr*(thH tb s (PTh.new k2 s (L.getD k2 []))*(bk N 39 #[.int .i64 s.words,.int .i64 s.stripes,.int .i64 s.wide,.int .i64 s.threads,.int .u64 s.start,.int .i64 s.spins,.int .i64 s.writes,.int .i64 s.fuel]*Y))))))→BoxS N #[.int .i64 s.words,.int .i64 s.stripes,.int .i64 s.wide,.int .i64 s.threads,.int .u64 s.start,.int .i64 s.spins,.int .i64 s.writes,.int .i64 s.fuel] w1∧Blk w1 b 97 (mcC (mcK s L k2) D)∧BoxS N #[.int .i64 s.words,.int .i64 s.stripes,.int .i64 s.wide,.int .i64 s.threads,.int .u64 s.start,.int .i64 s.spins,.int .i64 s.writes,.int .i64 s.fuel] (w1.setCell ⟨b,9,none⟩ (.slice A' (k2+1) c'))∧∃D',Sat ω (w1.setCell ⟨b,9,none⟩ (.slice A' (k2+1) c')) (bk N 39 #[.int .i64 s.words,.int .i64 s.stripes,.int .i64 s.wide,.int .i64 s.threads,.int .u64 s.start,.int .i64 s.spins,.int .i64 s.writes,.int .i64 s.fuel]*(mcX b (mcK s L (k2+1)) D'*Y))):=h_ (fun w1 A' c' tb h1=>by
      have h2:Sat ω w1 (bk N 39 #[.int .i64 s.words,.int .i64 s.stripes,.int .i64 s.wide,.int .i64 s.threads,.int .u64 s.start,.int .i64 s.spins,.int .i64 s.writes,.int .i64 s.fuel]*(row 102 1 (.slice A' (k2+1) c') (k2+1) (D.bs.map pV++[.pointer (some ⟨tb,0,none⟩)])*(bk b 97 (mcC (mcK s L k2) D)*(memH (shOf s) D.mb (mcK s L k2).mem*(thAll s D.bs (mcK s L k2).thr*(thH tb s (PTh.new k2 s (L.getD k2 []))*Y)))))):=h1.perm (by ac_rfl)
      have h3:=(mcRow_snoc hDl h1).swap;exact⟨h2.blk,h1.right.blk,h3.blk,_,h3⟩)
     have HON:Hid (∀tb:Nat,∀u∈([Value.pointer (some ⟨tb,0,none⟩)]:List Value),u.oneCell'=true):=h_ (by intro tb u hu;simp at hu;subst hu;rfl)
     have HRD:Hid (∀(w1:World) (tb:Nat),Reads (w1.alloc (.cells #[.pointer (some ⟨tb,0,none⟩)] 102)) (w1.heap.size+1) 1 (some ⟨w1.heap.size,0,none⟩) 1 [.pointer (some ⟨tb,0,none⟩)]):=h_ (fun w1 tb=>by
      have h9:=Reads.of_blk (size:=1) (n:=1) (Blk.new w1 102 #[.pointer (some ⟨tb,0,none⟩)]) rfl;rw[World.size_alloc] at h9;exact h9)
     have HSB:BoxS N #[.int .i64 s.words,.int .i64 s.stripes,.int .i64 s.wide,.int .i64 s.threads,.int .u64 s.start,.int .i64 s.spins,.int .i64 s.writes,.int .i64 s.fuel] wr.drew:=HTD.o.blk;clear hJ hN0 hC hlm hll k4 hDl;go_upto_if 57 with fail
     obtain⟨q,hq⟩:∃q,decide (k2<n)=q:=⟨_,rfl⟩;rw[hq];have HQ:=h_ hq;clear hq;go_cut [9] from 58 to 62 (fun c wx=>c=.slice B m d∧wr=wx)
     case first =>
      cases q
      ·obtain⟨rfl,rfl,rfl⟩:=HN0.o (by simpa using HQ.o)
       go_wp2_with fail;go_meet;exact⟨rfl,rfl⟩
      ·have hkn:k2<n:=by simpa using HQ.o
       obtain⟨ga,rfl,hga,r0⟩:=HJ.o hkn;go_wp2_with fail;go_meet;exact⟨rfl,rfl⟩
     case rest =>
      obtain⟨rfl,rfl⟩:=hcut;go_wp2;refine gN (BoxS N #[.int .i64 s.words,.int .i64 s.stripes,.int .i64 s.wide,.int .i64 s.threads,.int .u64 s.start,.int .i64 s.spins,.int .i64 s.writes,.int .i64 s.fuel]) HSB fun hh0=>?_
      refine tH 0 ?_ rfl ?_ (tH 1 ?_ rfl ?_ (tH 5 ?_ rfl ?_ (tH 6 ?_ rfl ?_ (tH 7 ?_ rfl ?_ (tH 2 ?_ rfl ?_ (tH 3 ?_ rfl ?_ ?_))))));all_goals (try (
       intro w hSw;have jl:=hSw.lt;have jf:=hSw.frozen;have j0:=hSw.c 0;have j1:=hSw.c 1;have j2:=hSw.c 2;have j3:=hSw.c 3;have j4:=hSw.c 4;have j5:=hSw.c 5;have j6:=hSw.c 6;have j7:=hSw.c 7;try simp only[sP]
       go_simp<;>(try with_reducible rfl)))
      try simp only[sP]
      refine rH [4,8] ?_;refine cH rfl (fun K hK=>?_) ?_
      ·go_simp;(try go_wp2_with fail);refine hK.q ?_ fun hh1=>?_
       ·exact HSB
       clear hK K hh0;try simp only[sP]
       refine oH 8 rfl fun K hK=>?_
       go_simp;go_at_call 36;refine(HNW.o _ HTD.o).mono ?_;rintro e wA ⟨tb,rfl,hs,hz,lA,qA⟩;have HAt:=h_ hs;have ZA:=h_ hz;have lA1:b<wA.heap.size+1:=(by omega);have qA1:∀o,(wA.alloc o).cell? ⟨b,9,none⟩=some (.slice D.tA k2 D.tc):=fun o=>(by rw[World.cell?_alloc_lt _ _ _ lA];exact qA);clear hs hz
       (try go_wp2_with fail);refine hK.q ?_ fun hh2=>?_
       ·exact ZA.out
       try simp only[sP]
       refine oH 9 rfl fun K hK=>?_
       go_simp;(try go_wp2_with fail);refine hK.q ?_ fun hh3=>?_
       ·exact(ZA.out:Blk _ _ _ _).alloc _
       try simp only[sP]
       refine oH 10 rfl fun K hK=>?_
       have HRW:=h_ (HPJ.o _ _ HAt.o);refine sap 91 102 1 8 Tryz.underlying91 HI.o HZ0.o HZ1.o HZ2.o (HRW.o.junk _) (HRD.o _ _) (HON.o _) ?_;intro A' c' wB hs;obtain⟨k1,kk2,k3,D',h4⟩:=HFJ.o _ _ _ _ hs;have HK1:=h_ k1;have HK3:=h_ k3;have HYY:=h_ h4;have qf:=kk2.frozen;have ql:=kk2.lt;obtain⟨u9,q9b⟩:∃u,wB.cell? ⟨b,9,none⟩=some u:=⟨_,kk2.cell 9⟩;(try go_wp2_with fail);refine hK.q ?_ fun hh4=>?_
       ·exact HK1.o
       try simp only[sP]
       refine tH 11 ?_ rfl ?_ (tH 12 ?_ rfl ?_ ?_);all_goals (try (
        intro w hSw;have jl:=hSw.lt;have jf:=hSw.frozen;have j0:=hSw.c 0;have j1:=hSw.c 1;have j2:=hSw.c 2;have j3:=hSw.c 3;have j4:=hSw.c 4;have j5:=hSw.c 5;have j6:=hSw.c 6;have j7:=hSw.c 7;try simp only[sP]
        go_simp<;>(try with_reducible rfl)))
       try simp only[sP]
       refine oH 13 rfl fun K hK=>?_
       go_simp;(try go_wp2_with fail);refine hK.q ?_ fun hh5=>?_
       ·exact HK3.o
       try simp only[sP]
       refine dN ?_;go_wp2;exact⟨⟨k2+1,D',by omega,by go_num,HYY.o⟩,by simp[intOf];omega⟩
      refine nH rfl fun K hK=>?_
      ·go_simp;go_at_call 36;refine(HNW.o _ HTD.o).mono ?_;rintro e wA ⟨tb,rfl,hs,hz,lA,qA⟩;have HAt:=h_ hs;have ZA:=h_ hz;have lA1:b<wA.heap.size+1:=(by omega);have qA1:∀o,(wA.alloc o).cell? ⟨b,9,none⟩=some (.slice D.tA k2 D.tc):=fun o=>(by rw[World.cell?_alloc_lt _ _ _ lA];exact qA)
       (try go_wp2_with fail);refine hK.q ?_ fun hh1=>?_
       ·exact ZA.out
       try simp only[sP]
       refine rH [4,9] ?_;refine cH rfl (fun K hK=>?_) ?_
       ·go_simp;(try go_wp2_with fail);refine hK.q ?_ fun hh2=>?_
        ·exact ZA.out
        try simp only[sP]
        refine oH 9 rfl fun K hK=>?_
        go_simp;(try go_wp2_with fail);refine hK.q ?_ fun hh3=>?_
        ·exact(ZA.out:Blk _ _ _ _).alloc _
        try simp only[sP]
        refine oH 10 rfl fun K hK=>?_
        have HRW:=h_ (HPJ.o _ _ HAt.o);refine sap 91 102 1 8 Tryz.underlying91 HI.o HZ0.o HZ1.o HZ2.o (HRW.o.junk _) (HRD.o _ _) (HON.o _) ?_;intro A' c' wB hs;obtain⟨k1,kk2,k3,D',h4⟩:=HFJ.o _ _ _ _ hs;have HK1:=h_ k1;have HK3:=h_ k3;have HYY:=h_ h4;have qf:=kk2.frozen;have ql:=kk2.lt;obtain⟨u9,q9b⟩:∃u,wB.cell? ⟨b,9,none⟩=some u:=⟨_,kk2.cell 9⟩;(try go_wp2_with fail);refine hK.q ?_ fun hh4=>?_
        ·exact HK1.o
        try simp only[sP]
        refine tH 11 ?_ rfl ?_ (tH 12 ?_ rfl ?_ ?_);all_goals (try (
         intro w hSw;have jl:=hSw.lt;have jf:=hSw.frozen;have j0:=hSw.c 0;have j1:=hSw.c 1;have j2:=hSw.c 2;have j3:=hSw.c 3;have j4:=hSw.c 4;have j5:=hSw.c 5;have j6:=hSw.c 6;have j7:=hSw.c 7;try simp only[sP]
         go_simp<;>(try with_reducible rfl)))
        try simp only[sP]
        refine oH 13 rfl fun K hK=>?_
        go_simp;(try go_wp2_with fail);refine hK.q ?_ fun hh5=>?_
        ·exact HK3.o
        try simp only[sP]
        refine dN ?_;go_wp2;exact⟨⟨k2+1,D',by omega,by go_num,HYY.o⟩,by simp[intOf];omega⟩
       refine nH rfl fun K hK=>?_
       ·go_simp;(try go_wp2_with fail);refine hK.q ?_ fun hh2=>?_
        ·exact(ZA.out:Blk _ _ _ _).alloc _
        try simp only[sP]
        refine oH 4 rfl fun K hK=>?_
        go_simp;(try go_wp2_with fail);refine hK.q ?_ fun hh3=>?_
        ·exact(ZA.out:Blk _ _ _ _).alloc _
        try simp only[sP]
        refine oH 10 rfl fun K hK=>?_
        have HRW:=h_ (HPJ.o _ _ HAt.o);refine sap 91 102 1 8 Tryz.underlying91 HI.o HZ0.o HZ1.o HZ2.o (HRW.o.junk _) (HRD.o _ _) (HON.o _) ?_;intro A' c' wB hs;obtain⟨k1,kk2,k3,D',h4⟩:=HFJ.o _ _ _ _ hs;have HK1:=h_ k1;have HK3:=h_ k3;have HYY:=h_ h4;have qf:=kk2.frozen;have ql:=kk2.lt;obtain⟨u9,q9b⟩:∃u,wB.cell? ⟨b,9,none⟩=some u:=⟨_,kk2.cell 9⟩;(try go_wp2_with fail);refine hK.q ?_ fun hh4=>?_
        ·exact HK1.o
        try simp only[sP]
        refine tH 11 ?_ rfl ?_ (tH 12 ?_ rfl ?_ ?_);all_goals (try (
         intro w hSw;have jl:=hSw.lt;have jf:=hSw.frozen;have j0:=hSw.c 0;have j1:=hSw.c 1;have j2:=hSw.c 2;have j3:=hSw.c 3;have j4:=hSw.c 4;have j5:=hSw.c 5;have j6:=hSw.c 6;have j7:=hSw.c 7;try simp only[sP]
         go_simp<;>(try with_reducible rfl)))
        try simp only[sP]
        refine oH 13 rfl fun K hK=>?_
        go_simp;(try go_wp2_with fail);refine hK.q ?_ fun hh5=>?_
        ·exact HK3.o
        try simp only[sP]
        refine dN ?_;go_wp2;exact⟨⟨k2+1,D',by omega,by go_num,HYY.o⟩,by simp[intOf];omega⟩
    ·obtain rfl:k2=T:=by omega
     have HZ:Hid (Sat ω wr (mcH b (PMc.new r L)*Y)):=h_ (by rw[←HNEW.o];exact mcH_to HR.o.right)
     go_wp2;go_ret;exact⟨b,rfl,HZ.o⟩
def ToShort (T:PTo):Prop:=T.reads.length≤1000∧T.cells.length≤1000
theorem toldOf_short {x:PAt}(h:AtFine x)(t:PTh)(p:Nat):ToShort (x.toldOf t p):=by
 obtain⟨dep,hi⟩:=h.it;have h1:=hi.vf.ok.order;have h2:=hi.vf.facts;refine⟨?_,?_⟩
 ·show(PVw.known x.v).length≤1000
  unfold PVw.known;rw[List.length_map];omega
 ·show(PAt.cells x).length≤1000
  unfold PAt.cells;split
  ·have:=hi.vf.logs.cells.1;omega
  ·simp
theorem again_past (t:PTh)(s:PSt):(t.again s).past=t.past:=by
 unfold PTh.again;simp only;split<;>rfl
theorem pause_past (t:PTh)(s:PSt)(d:Nat):(t.pause s d).past=t.past:=by
 unfold PTh.pause;simp only;split
 ·rw[again_past]
 ·rfl
theorem pauseOne_past (t:PTh)(s:PSt):(t.pauseOne s).past=t.past:=by
 unfold PTh.pauseOne;split
 ·rfl
 ·simp only;split
  ·rw[again_past]
  ·rfl
theorem wake_past (t:PTh)(s:PSt)(k v:Nat):(t.wake s k v).past=t.past:=by
 unfold PTh.wake;split
 ·rfl
 ·split
  ·split
   ·rw[again_past]
   ·split<;>rfl
  ·rfl
theorem ended_past (t:PTh)(s:PSt)(x:PAt)(d p:Nat):(t.ended s x d p).past=t.past++[x.toldOf t p]:=by
 unfold PTh.ended;simp only;split
 ·split
  ·rfl
  ·rw[pause_past]
 ·split
  ·split
   ·rw[again_past]
   ·rfl
  ·unfold PTh.following;rw[again_past]
theorem tell_past (t:PTh)(s:PSt)(a:PAns)(d p:Nat):(t.tell s a d p).past=t.past∨∃x t',t.state=1∧t.now=some x∧(t.tell s a d p).past=t.past++[(x.tell s a).toldOf t' p]:=by
 unfold PTh.tell;split
 ·rename_i h1;split
  ·exact .inl rfl
  ·rename_i x hx;simp only;split
   ·refine .inr ⟨x,{ t with now:=some (x.tell s a),born:=if((x.tell s a).begun&&!x.begun)=true then p else t.born },h1,hx,?_⟩
    rw[ended_past]
   ·exact .inl rfl
 ·unfold PTh.yield_;split
  ·exact .inl rfl
  ·rw[pause_past];exact .inl rfl
 ·exact .inl rfl
structure PastOk (M:PMc):Prop where
 all:∀(i:Nat) (t:PTh),M.thr[i]?=some t→∀T∈t.past,ToShort T
theorem PastOk.pick {M:PMc}(h:PastOk M)(hM:McFine M)(i d:Nat):PastOk (M.pick i d):=by
 obtain⟨s0,hs0⟩:=hM.set;obtain⟨f1,f2⟩:=held_fine s0;rw[←hs0] at f1 f2;unfold PMc.pick;cases ht:M.thr[i]? with
 |none=>exact h
 |some t =>
  have hlt:i<M.thr.length:=(List.getElem?_eq_some_iff.1 ht).1;obtain⟨hth,hme⟩:=hM.thr i t ht;have put:∀u,(∀T∈u.past,ToShort T)→∀(k:Nat) (v:PTh),(M.thr.set i u)[k]?=some v→∀T∈v.past,ToShort T:=fun u hu k v hv=>by
   by_cases e:k=i
   ·subst e;rw[List.getElem?_set_self hlt] at hv;obtain rfl:=Option.some.inj hv;exact hu
   ·rw[List.getElem?_set_ne (Ne.symm e)] at hv;exact h.all k v hv
  simp only;by_cases hd:t.next.2=false
  ·rw[if_pos hd];exact⟨put _ (by rw[pauseOne_past];exact h.all i t ht)⟩
  rw[if_neg hd];have hd':t.next.2=true:=by simpa using hd
  have hte:∀T∈(t.tell M.s (doC M.mem t.next.1).1 d (M.picks+1)).past,ToShort T:=by
   intro T hT;have e0:(doC M.mem t.next.1).1=(doM M.mem t.next.1).1:=rfl;rcases tell_past t M.s (doC M.mem t.next.1).1 d (M.picks+1) with e|⟨x,t',h1,hx,e⟩
   ·rw[e] at hT;exact h.all i t ht T hT
   ·rw[e] at hT;simp only[List.mem_append,List.mem_singleton] at hT;rcases hT with hT|rfl
    ·exact h.all i t ht T hT
    ·have hn:t.next=x.next:=by unfold PTh.next;rw[h1,hx];rfl
     rw[hn] at hd' ⊢;exact toldOf_short ((hth.now x hx).tell f1 hM.mem hd') _ _
  have hput:=put _ hte;split
  ·exact⟨hput⟩
  ·refine⟨fun k v hv=>?_⟩
   simp only[List.getElem?_mapIdx,Option.map_eq_some_iff] at hv;obtain⟨o,ho,rfl⟩:=hv;have q:=hput k o ho;split
   ·exact q
   ·rw[wake_past];exact q
theorem PastOk.new (s:PSt)(jobs:List (List (List PIns))):PastOk (PMc.new s jobs):=by
 refine⟨fun i t ht=>?_⟩
 simp only[PMc.new,List.getElem?_map,Option.map_eq_some_iff] at ht;obtain⟨k,hk,rfl⟩:=ht;unfold PTh.new;rw[again_past];intro T hT;cases hT
theorem mc_threads (ω w:World)(F:HP)(b:Nat)(M:PMc)(h:Sat ω w (mcH b M*F)):
  Calls Tryz.prog 31 #[.pointer (some ⟨b,0,none⟩)] w fun e w'=>e=.returned (.int .i64 M.thr.length)∧w'=w:=by
 obtain⟨D,h⟩:=mcH_of h;obtain⟨hl,h1⟩:=mcX_open h;have hk:=h1.blk;have kl:=hk.lt;have k9:=hk.c 9;generalize M.thr.length=n at *
 go_enter Tryz.func31,Tryz.ntmps31;go_wp2;go_ret;exact⟨rfl,rfl⟩
theorem toVs_append (ps2:List (Value×Value))(ts2:List PTo):∀(ps:List (Value×Value)) (ts:List PTo),ps.length=ts.length→toVs (ps++ps2) (ts++ts2)=toVs ps ts++toVs ps2 ts2∧toAll (ps++ps2) (ts++ts2)=toAll ps ts*toAll ps2 ts2
 | [],[],_=>by
  refine⟨rfl,?_⟩;show toAll ps2 ts2=emp*toAll ps2 ts2
  rw[emp_star]
 |p::ps,t::ts,h=>by
  obtain⟨h1,h2⟩:=toVs_append ps2 ts2 ps ts (by simpa using h)
  refine⟨?_,?_⟩
  ·show toV p t++toVs (ps++ps2) (ts++ts2)=toV p t++toVs ps ts++toVs ps2 ts2
   rw[h1,List.append_assoc]
  ·show toH p t*toAll (ps++ps2) (ts++ts2)=(toH p t*toAll ps ts)*toAll ps2 ts2
   rw[h2];ac_rfl
theorem toVs_one {ω w:World}:∀(ps:List (Value×Value)) (ts:List PTo) (F:HP),Sat ω w (toAll ps ts*F)→∀u∈toVs ps ts,u.oneCell'=true
 | [],_,F,h=>by intro u hu;cases hu
 |_::_,[],F,h=>by intro u hu;cases hu
 |p::ps,t::ts,F,h=>by
  intro u hu;obtain⟨q1,q2⟩:=p;have h1:Sat ω w (row 54 2 q1 t.reads.length (vS t.reads)*(row 54 2 q2 t.cells.length (vS t.cells)*(toAll ps ts*F))):=h.perm (by show(row 54 2 q1 t.reads.length (vS t.reads)*row 54 2 q2 t.cells.length (vS t.cells)*toAll ps ts)*F=_;ac_rfl)
  obtain⟨A1,c1,rfl⟩:=h1.rowForm;obtain⟨A2,c2,rfl⟩:=h1.right.rowForm;have h2:u∈toV (.slice A1 t.reads.length c1,.slice A2 t.cells.length c2) t∨u∈toVs ps ts:=by
   have e:toVs ((.slice A1 t.reads.length c1,.slice A2 t.cells.length c2)::ps) (t::ts)=toV (.slice A1 t.reads.length c1,.slice A2 t.cells.length c2) t++toVs ps ts:=rfl;rw[e] at hu;exact List.mem_append.1 hu
  rcases h2 with h2|h2
  ·simp only[toV,List.mem_cons,List.not_mem_nil,or_false] at h2;rcases h2 with rfl|rfl|rfl|rfl|rfl|rfl|rfl|rfl|rfl|rfl|rfl|rfl|rfl|rfl<;>rfl
  ·exact toVs_one ps ts F h1.right.right u h2
def attTo (thr:List PTh)(k:Nat):List PTo:=(thr.take k).flatMap PTh.attempts
theorem attTo_succ (thr:List PTh){k:Nat}{t:PTh}(ht:thr[k]?=some t):attTo thr (k+1)=attTo thr k++t.attempts:=by
 unfold attTo;rw[List.take_add_one,ht];simp
theorem attTo_all (M:PMc):attTo M.thr M.thr.length=M.attempts:=by
 unfold attTo PMc.attempts;rw[List.take_length]
theorem att_len {K:Nat}{t:PTh}(h:ThFine K t):t.attempts.length≤K+1:=by
 have h1:=h.past;unfold PTh.attempts;rw[List.length_append];split
 ·split
  ·split<;>simp<;>omega
  ·simp;omega
 ·simp;omega
theorem attTo_len {K:Nat}(thr:List PTh)(h:∀(i:Nat) (t:PTh),thr[i]?=some t→ThFine K t):∀k,k≤thr.length→(attTo thr k).length≤k*(K+1)
 |0,_=>by simp[attTo]
 |k+1,hk=>by
  have hlt:k<thr.length:=by omega
  have h1:=attTo_len thr h k (by omega)
  rw[attTo_succ thr (List.getElem?_eq_getElem hlt),List.length_append];have h2:=att_len (h k _ (List.getElem?_eq_getElem hlt));rw[Nat.succ_mul];omega
def AttP (ω:World)(X:HP)(ts:List PTo)(A:Option Addr)(c:Nat)(w:World):Prop:=∃qs:List (Value×Value),qs.length=ts.length∧Sat ω w (row 52 14 (.slice A ts.length c) ts.length (toVs qs ts)*(toAll qs ts*X))
theorem AtsP.all {ω w:World}{X:HP}{ts:List PTo}{A:Option Addr}{c:Nat}(h:AtsP ω X ts ts.length A c w):AttP ω X ts A c w:=by
 obtain⟨qs,h1,h2⟩:=h;rw[List.take_length] at h2;exact⟨qs,h1,h2⟩
theorem mc_attempts [Inhabited PowO](ω w:World)(F:HP)(b:Nat)(M:PMc)(hM:McFine M)(hP:PastOk M)(hK:M.picks≤10000)(h:Sat ω w (mcH b M*(powH*F))):
  Calls Tryz.prog 15 #[.pointer (some ⟨b,0,none⟩)] w fun e w'=>∃A c,e=.returned (.slice A M.attempts.length c)∧AttP ω (mcH b M*(powH*F)) M.attempts A c w':=by
 obtain⟨D,h⟩:=mcH_of h;obtain⟨hl,h1⟩:=mcX_open h;obtain⟨n,hn⟩:∃n,M.thr.length=n:=⟨_,rfl⟩;have hn4:n≤4:=by
  obtain⟨s0,e⟩:=hM.set;have h9:=(held_fine s0).2;have h8:=hM.len;rw[e] at h8;omega
 have hk:=h1.blk;have kl:=hk.lt;have k9:w.cell? ⟨b,9,none⟩=some (.slice D.tA n D.tc):=by rw[←hn];exact hk.cell 9
 obtain⟨X,hX⟩:∃X:HP,X=mcX b M D*(powH*F):=⟨_,rfl⟩;have HAL:Hid (∀k,k≤n→(attTo M.thr k).length≤40004):=h_ (fun k hk=>by
  have h9:=attTo_len (K:=M.picks) M.thr (fun i t ht=>(hM.thr i t ht).1) k (by omega)
  have h8:k*(M.picks+1)≤4*10001:=Nat.mul_le_mul (by omega) (by omega)
  omega)
 have HRO:Hid (∀k,k<n→∃t:PTh,M.thr[k]?=some t∧∀(w1:World) A c,AttP ω X (attTo M.thr k) A c w1→∃g tb,D.tA=some ⟨g,0,none⟩∧g<w1.heap.size∧w1.cell? ⟨g,k,none⟩=some (.pointer (some ⟨tb,0,none⟩))∧∃xs,(∃Z,Sat ω w1 (row 52 14 (.slice A (attTo M.thr k).length c) (attTo M.thr k).length xs*Z)) ∧
   Calls Tryz.prog 41 #[.pointer (some ⟨tb,0,none⟩)] w1 fun e w'=>∃B d ys,e=.returned (.slice B t.attempts.length d)∧(∀u∈ys,u.oneCell'=true)∧Reads w' w'.heap.size 14 B t.attempts.length ys∧∃Z,Sat ω w' (row 52 14 (.slice A (attTo M.thr k).length c) (attTo M.thr k).length xs*Z) ∧
    ∀w'' A' c',Sat ω w'' (row 52 14 (.slice A' ((attTo M.thr k).length+t.attempts.length) c') ((attTo M.thr k).length+t.attempts.length) (xs++ys)*Z)→AttP ω X (attTo M.thr (k+1)) A' c' w''):=h_ (fun k hk=>by
  obtain⟨t,ht⟩:∃t,M.thr[k]?=some t:=⟨_,List.getElem?_eq_getElem (by omega)⟩
  refine⟨t,ht,fun w1 A c h2=>?_⟩
  obtain⟨hth,_⟩:=hM.thr k t ht;obtain⟨qs,hq,h3⟩:=h2;obtain⟨tb,R,hb,hR,_⟩:=thAll_at M.s D.bs M.thr hl k t ht;have h4:Sat ω w1 (mcX b M D*(powH*F*(row 52 14 (.slice A (attTo M.thr k).length c) (attTo M.thr k).length (toVs qs (attTo M.thr k))*toAll qs (attTo M.thr k)))):=h3.perm (by rw[hX];ac_rfl)
  have h5:=(mcX_open h4).2;obtain⟨g,hA,hg,hc⟩:=mcRow_at (h5.perm (by ac_rfl:_=(bk b 97 (mcC M D)*memH (shOf M.s) D.mb M.mem)*(mcRow M D*(thAll M.s D.bs M.thr*(powH*F*(row 52 14 (.slice A (attTo M.thr k).length c) (attTo M.thr k).length (toVs qs (attTo M.thr k))*toAll qs (attTo M.thr k))))))) hb
  refine⟨g,tb,hA,hg,hc,_,⟨_,h3⟩,?_⟩;have eX:X=thH tb M.s t*(powH*(R*(bk b 97 (mcC M D)*(memH (shOf M.s) D.mb M.mem*(fact (D.bs.length=M.thr.length)*(mcRow M D*F)))))):=by
   rw[hX];unfold mcX mcRow;rw[hR];ac_rfl
  have h6:Sat ω w1 (thH tb M.s t*(powH*((R*(bk b 97 (mcC M D)*(memH (shOf M.s) D.mb M.mem*(fact (D.bs.length=M.thr.length)*(mcRow M D*F)))))*(row 52 14 (.slice A (attTo M.thr k).length c) (attTo M.thr k).length (toVs qs (attTo M.thr k))*toAll qs (attTo M.thr k))))):=h3.perm (by rw[eX];ac_rfl)
  refine(th_attempts ω w1 _ tb M.s t h6 hth.st (fun e=>by obtain⟨x,hx⟩:=hth.some_ e;obtain⟨r1,r2,r3,r4⟩:=(hth.now x hx).run;exact⟨x,hx,⟨r1,r2,r3,r4⟩⟩) (by have:=hth.past;omega) (hP.all k t ht)).mono ?_
  rintro e w2 ⟨B,d,rfl,h7⟩;obtain⟨q2,hq2,h8⟩:=h7.all;have h9:Sat ω w2 (toAll q2 t.attempts*(row 52 14 (.slice B t.attempts.length d) t.attempts.length (toVs q2 t.attempts)*(thH tb M.s t*(powH*((R*(bk b 97 (mcC M D)*(memH (shOf M.s) D.mb M.mem*(fact (D.bs.length=M.thr.length)*(mcRow M D*F)))))*(row 52 14 (.slice A (attTo M.thr k).length c) (attTo M.thr k).length (toVs qs (attTo M.thr k))*toAll qs (attTo M.thr k))))))):=h8.swap;refine⟨B,d,toVs q2 t.attempts,rfl,toVs_one _ _ _ h9,h8.reads,toAll qs (attTo M.thr k)*(toAll q2 t.attempts*(row 52 14 (.slice B t.attempts.length d) t.attempts.length (toVs q2 t.attempts)*X)),h8.perm (by rw[eX];ac_rfl),fun w'' A' c' h10=>⟨qs++q2,by rw[attTo_succ M.thr ht,List.length_append,List.length_append,hq,hq2],?_⟩⟩
  obtain⟨e1,e2⟩:=toVs_append q2 t.attempts qs (attTo M.thr k) hq;rw[attTo_succ M.thr ht,e1,e2,List.length_append];have h11:Sat ω w'' (row 52 14 (.slice B t.attempts.length d) t.attempts.length (toVs q2 t.attempts)*(row 52 14 (.slice A' ((attTo M.thr k).length+t.attempts.length) c') ((attTo M.thr k).length+t.attempts.length) (toVs qs (attTo M.thr k)++toVs q2 t.attempts)*(toAll qs (attTo M.thr k)*(toAll q2 t.attempts*X)))):=h10.perm (by ac_rfl)
  exact h11.right.perm (by ac_rfl))
 have HST:Hid (AttP ω X (attTo M.thr 0) none 0 w):=h_ ⟨[],rfl,by
  have h2:=h.nil 52 14;rw[hX];exact h2.perm (by show _=_*(emp*_);rw[emp_star];rfl)⟩
 have HFI:Hid (∀w1 A c,AttP ω X (attTo M.thr n) A c w1→AttP ω (mcH b M*(powH*F)) M.attempts A c w1):=h_ (fun w1 A c h2=>by
  rw[←hn,attTo_all] at h2;obtain⟨qs,h3,h4⟩:=h2;refine⟨qs,h3,?_⟩;rw[hX] at h4;have h5:Sat ω w1 (mcX b M D*(powH*F*(row 52 14 (.slice A M.attempts.length c) M.attempts.length (toVs qs M.attempts)*toAll qs M.attempts))):=h4.perm (by ac_rfl)
  exact(mcH_to h5).perm (by ac_rfl))
 have HNL:Hid ((attTo M.thr n).length=M.attempts.length):=h_ (by rw[←hn,attTo_all])
 obtain⟨i0,hi0,hz⟩:=Option.map_eq_some_iff.1 infoAtt_;simp only[Prod.mk.injEq] at hz;obtain⟨hz0,hz1,hz2⟩:=hz;have HI:=h_ hi0;have HZ0:=h_ hz0;have HZ1:=h_ hz1;have HZ2:=h_ hz2;have HTL:Hid (∀k t,k<n→M.thr[k]?=some t→t.attempts.length≤10001):=h_ (fun k t _ ht=>by have:=att_len (hM.thr k t ht).1;omega)
 have HSU:Hid (∀k t,M.thr[k]?=some t→(attTo M.thr (k+1)).length=(attTo M.thr k).length+t.attempts.length):=h_ (fun k t ht=>by rw[attTo_succ M.thr ht,List.length_append])
 obtain⟨Q,hQ⟩:∃Q:Nat→Nat,Q=fun k=>(attTo M.thr k).length:=⟨_,rfl⟩
 have hQ0:Q 0=0:=by rw[hQ];rfl
 have HQ:=h_ hQ;have HQL:Hid (∀k,k≤n→Q k≤40004):=h_ (by rw[hQ];exact HAL.o)
 go_enter Tryz.func15,Tryz.ntmps15;go_wp2;go_loopw [3,5,11] (fun v3 _ i wr=>∃(k:Nat) (A:Option Addr) (c:Nat),k≤n∧i=.int .i64 k∧v3=.slice A (Q k) c∧Hid (AttP ω X (attTo M.thr k) A c wr)) (fun _ _ i _=>n-(intOf i).toNat)
 case atStart=>exact⟨0,none,0,by omega,rfl,by rw[hQ0],HST.o⟩
 case round =>
  obtain⟨k,A,c,hk,rfl,rfl,HA⟩:=hrel;by_cases hlt:k<n
  ·obtain⟨t,ht,hro⟩:=HRO.o k hlt;obtain⟨g,tb,hAg,hg,hc,xs,hz1,hco⟩:=hro wr A c HA.o;have k9g:w.cell? ⟨b,9,none⟩=some (.slice (some ⟨g,0,none⟩) n D.tc):=by rw[←hAg];exact k9
   have hm:=HTL.o k t hlt ht;have hql:=HQL.o k (by omega)
   have hsu:Q (k+1)=Q k+t.attempts.length:=by rw[HQ.o];exact HSU.o k t ht
   have eqk:(attTo M.thr k).length=Q k:=by rw[HQ.o]
   rw[eqk] at hco;obtain⟨m,hmm⟩:∃m,t.attempts.length=m:=⟨_,rfl⟩;rw[hmm] at hco hm hsu;obtain⟨kq,hkq⟩:∃kq,Q k=kq:=⟨_,rfl⟩;rw[hkq] at hco hql hsu ⊢;have HCO:=h_ hco;have HSUU:=h_ hsu;rw[hAg];go_wp2_with (first
    |(go_at_call 41;refine(HCO.o).mono ?_;rintro e w1 ⟨B,d,ys,rfl,ho,hr,Z,hs,hf⟩;have HSa:=h_ hs;have HF:=h_ hf;have HRD:=h_ hr;have HON:=h_ ho)
    |(at_builtin;refine wpList_append_sat rfl _ _ 47 rfl 52 i0 _ 14 168 Tryz.underlying47 HI.o HZ0.o HZ1.o HZ2.o rfl (by decide) _ _ _ rfl HSa.o _ _ _ _ _ rfl HRD.o HON.o (by unfold maxLen;first|done|omega) (by first|done|omega) ?_;intro A' c' w2 hs;have HY:=h_ (HF.o _ _ _ hs)))
   exact⟨⟨k+1,_,_,by omega,by go_num,by rw[HSUU.o],HY.o⟩,by simp[intOf];omega⟩
  ·obtain rfl:k=n:=by omega
   have hE:Q k=M.attempts.length:=by rw[HQ.o];exact HNL.o
   have HZ:=h_ (HFI.o wr A c HA.o);have HEE:=h_ hE;go_wp2;go_ret;exact⟨A,c,by rw[HEE.o];rfl,HZ.o⟩
section
variable (ω w : World) (F : HP)
theorem vU_one (l:List Nat):∀u∈vU l,u.oneCell'=true:=by
 intro u hu;obtain⟨n,_,rfl⟩:=List.mem_map.1 hu;rfl
theorem row_bk_toArray {g:Nat}{e:TypeId}{xs:List Value}(h:xs.length≤maxLen):∀y,bk g e xs.toArray y→row e 1 (.slice (some ⟨g,0,none⟩) xs.length xs.length) xs.length xs y:=fun y hy =>
 row_of_blk (Nat.le_refl _) h (by simp) (by simp) y hy
theorem heap_all (b:Nat)(ws:List Nat)(h:Sat ω w (heapH b ws*F))(hn:ws.length≤1000):
  Calls Tryz.prog 71 #[.pointer (some ⟨b,0,none⟩)] w (RetR ω (heapH b ws*F) 22 1 ws.length (vU ws)):=by
 obtain⟨g,h⟩:=h.of_ex;have h:=h.assoc;have c0:=h.blk.c 0;have kl:=h.blk.lt;have HC:Hid (Calls Tryz.prog 111 #[.slice (some ⟨g,0,none⟩) ws.length ws.length] w (RetR ω (heapH b ws*F) 22 1 ws.length (vU ws))):=h_ (by
  have h2:Sat ω w (bk g 22 (vU ws).toArray*(bk b 168 #[.slice (some ⟨g,0,none⟩) ws.length ws.length]*F)):=h.swap;have h3:=h2.impL (row_bk_toArray (by rw[vU_len];unfold maxLen;omega))
  rw[vU_len] at h3;refine(cloneWord ω w _ _ ws.length ws.length (vU ws) h3 (by omega) (vU_one _)).mono ?_
  rintro e w2 ⟨B,d,rfl,h4⟩;refine⟨B,d,rfl,?_⟩;have h5:=h4.swap.rowFull;have h6:Sat ω w2 ((bk b 168 #[.slice (some ⟨g,0,none⟩) ws.length ws.length]*bk g 22 (vU ws).toArray)*(row 22 1 (.slice B ws.length d) ws.length (vU ws)*F)):=h5.perm (by ac_rfl)
  have h7:Sat ω w2 (heapH b ws*(row 22 1 (.slice B ws.length d) ws.length (vU ws)*F)):=Sat.to_ex g h6;exact h7.swap)
 generalize heapH b ws=HPP at *
 generalize ws.length=n at *
 go_enter Tryz.func71,Tryz.ntmps71;go_wp2_with (go_at_call 111;refine(HC.o).mono ?_;rintro e w1 ⟨B,d,rfl,hs⟩;have HZ:=h_ hs);go_ret;exact⟨_,_,rfl,HZ.o⟩
theorem mem_words (s:MSh)(b:Nat)(m:PMm)(h:Sat ω w (memH s b m*F))(hf:m.fits):
  Calls Tryz.prog 42 #[.pointer (some ⟨b,0,none⟩)] w (RetR ω (memH s b m*F) 22 1 m.words.length (vU m.words)):=by
 obtain⟨A,h⟩:=h.of_ex;have hb:=(h.perm memHA_top).blk;have kl:=hb.lt;have c5:w.cell? ⟨b,5,none⟩=some (.pointer (some ⟨A.bh,0,none⟩)):=hb.cell 5;have h2:Sat ω w (heapH A.bh m.words*(bk b 130 (memCells s A m.count)*(tabH A.bt m.locks s.wide*(clkH A.bc m.clock*epH A.bs m.since))*F)):=h.perm memHA_heap;have HC:Hid (Calls Tryz.prog 71 #[.pointer (some ⟨A.bh,0,none⟩)] w (RetR ω (memH s b m*F) 22 1 m.words.length (vU m.words))):=h_ (by
  refine(heap_all ω w _ A.bh m.words h2 hf.words).mono ?_;rintro e w2 ⟨B,d,rfl,h4⟩;have h5:Sat ω w2 (memHA s b m A*(row 22 1 (.slice B m.words.length d) m.words.length (vU m.words)*F)):=h4.perm (by rw[memHA_heap];ac_rfl)
  have h6:Sat ω w2 (memH s b m*(row 22 1 (.slice B m.words.length d) m.words.length (vU m.words)*F)):=Sat.to_ex A h5;exact⟨B,d,rfl,h6.swap⟩)
 go_enter Tryz.func42,Tryz.ntmps42;go_wp2_with (go_at_call 71;refine(HC.o).mono ?_;rintro e w1 ⟨B,d,rfl,hs⟩;have HZ:=h_ hs);go_ret;exact⟨_,_,rfl,HZ.o⟩
theorem mc_words (b:Nat)(M:PMc)(h:Sat ω w (mcH b M*F))(hM:McFine M):
  Calls Tryz.prog 18 #[.pointer (some ⟨b,0,none⟩)] w (RetR ω (mcH b M*F) 22 1 M.mem.words.length (vU M.mem.words)):=by
 obtain⟨D,h⟩:=mcH_of h;obtain⟨hl,h1⟩:=mcX_open h;have hk:=h1.blk;have kl:=hk.lt;have k8:w.cell? ⟨b,8,none⟩=some (.pointer (some ⟨D.mb,0,none⟩)):=hk.cell 8;have HC:Hid (Calls Tryz.prog 42 #[.pointer (some ⟨D.mb,0,none⟩)] w (RetR ω (mcH b M*F) 22 1 M.mem.words.length (vU M.mem.words))):=h_ (by
  refine(mem_words ω w _ (shOf M.s) D.mb M.mem h1.swap hM.mem.fits).mono ?_;rintro e w2 ⟨B,d,rfl,h2⟩;refine⟨B,d,rfl,?_⟩;have h3:Sat ω w2 (bk b 97 (mcC M D)*(memH (shOf M.s) D.mb M.mem*(mcRow M D*(thAll M.s D.bs M.thr*(row 22 1 (.slice B M.mem.words.length d) M.mem.words.length (vU M.mem.words)*F))))):=h2.perm (by ac_rfl)
  exact(mcX_close hl h3).swap)
 generalize mcH b M=HPP at *
 generalize M.mem.words.length=n at *
 go_enter Tryz.func18,Tryz.ntmps18;go_wp2_with (go_at_call 42;refine(HC.o).mono ?_;rintro e w1 ⟨B,d,rfl,hs⟩;have HZ:=h_ hs);go_ret;exact⟨_,_,rfl,HZ.o⟩
theorem mc_of (b:Nat)(M:PMc)(D:McD)(h:Sat ω w (mcX b M D*F))(i tb:Nat)(hi:i<M.thr.length)(hb:D.bs[i]?=some tb):
  Calls Tryz.prog 43 #[.pointer (some ⟨b,0,none⟩),.int .i64 i] w fun e w'=>e=.returned (.pointer (some ⟨tb,0,none⟩))∧w'=w:=by
 obtain⟨hl,h1⟩:=mcX_open h;obtain⟨g,hA,hg,hc⟩:=mcRow_at (h1.perm (by ac_rfl:_=(bk b 97 (mcC M D)*memH (shOf M.s) D.mb M.mem)*(mcRow M D*(thAll M.s D.bs M.thr*F)))) hb
 have hk:=h1.blk;have kl:=hk.lt;have k9:w.cell? ⟨b,9,none⟩=some (.slice (some ⟨g,0,none⟩) M.thr.length D.tc):=by rw[←hA];exact hk.cell 9
 have hc2:w.cell? ⟨g,i,none⟩=some (.pointer (some ⟨tb,0,none⟩)):=hc;generalize M.thr.length=n at *
 have dge:¬(n:Int)≤(i:Int):=by omega
 have dlt:¬(i:Int)<0:=by omega
 have dil:(i:Int)<(n:Int):=by omega
 go_enter Tryz.func43,Tryz.ntmps43;go_wp2;go_ret;exact⟨rfl,rfl⟩
theorem mc_results (b:Nat)(M:PMc)(h:Sat ω w (mcH b M*F))(i:Nat)(t:PTh)(ht:M.thr[i]?=some t)(hn:t.results.length≤1000000):
  Calls Tryz.prog 19 #[.pointer (some ⟨b,0,none⟩),.int .i64 i] w (RetR ω (mcH b M*F) 66 4 t.results.length (t.results.flatMap reV)):=by
 obtain⟨D,h⟩:=mcH_of h;obtain⟨hl,h1⟩:=mcX_open h;have hi:i<M.thr.length:=(List.getElem?_eq_some_iff.1 ht).1;obtain⟨tb,R,hb,hR,hset⟩:=thAll_at M.s D.bs M.thr hl i t ht;have HOF:=h_ (mc_of ω w F b M D h i tb hi hb);have HRE:Hid (Calls Tryz.prog 44 #[.pointer (some ⟨tb,0,none⟩)] w (RetR ω (mcH b M*F) 66 4 t.results.length (t.results.flatMap reV))):=h_ (by
  have h2:Sat ω w (thH tb M.s t*(R*(bk b 97 (mcC M D)*(memH (shOf M.s) D.mb M.mem*(mcRow M D*F))))):=h1.perm (by rw[hR];ac_rfl)
  refine(th_results ω w _ tb M.s t h2 hn).mono ?_;rintro e w2 ⟨B,d,rfl,h3⟩;refine⟨B,d,rfl,?_⟩;have h4:Sat ω w2 (bk b 97 (mcC M D)*(memH (shOf M.s) D.mb M.mem*(mcRow M D*(thAll M.s D.bs M.thr*(row 66 4 (.slice B t.results.length d) t.results.length (t.results.flatMap reV)*F))))):=h3.perm (by rw[hR];ac_rfl)
  exact(mcX_close hl h4).swap)
 generalize mcH b M=HPP at *
 generalize t.results.length=n at *
 go_enter Tryz.func19,Tryz.ntmps19;go_wp2_with (first
  |(go_at_call 43;refine(HOF.o).mono ?_;rintro e w1 ⟨rfl,rfl⟩)
  |(go_at_call 44;refine(HRE.o).mono ?_;rintro e w1 ⟨B,d,rfl,hs⟩;have HZ:=h_ hs))
 go_ret;exact⟨_,_,rfl,HZ.o⟩
theorem rests_take {thr:List PTh}{n:Nat}(hn:thr.length=n)(h:∀(j:Nat) (t:PTh),j<n→thr[j]?=some t→t.state=6∨t.state=4):thr.all (fun t=>t.state==6||t.state==4)=true:=by
 rw[List.all_eq_true];intro t ht;obtain⟨j,hj⟩:=List.getElem?_of_mem ht;have h1:j<thr.length:=(List.getElem?_eq_some_iff.1 hj).1;rcases h j t (by omega) hj with e|e<;>simp[e]
theorem rests_miss {thr:List PTh}{j:Nat}{t:PTh}(ht:thr[j]?=some t)(h6:t.state≠6)(h4:t.state≠4):thr.all (fun t=>t.state==6||t.state==4)=false:=by
 rw[List.all_eq_false];exact⟨t,List.mem_of_getElem? ht,by simp[h6,h4]⟩
theorem mc_rests (b:Nat)(M:PMc)(h:Sat ω w (mcH b M*F))(hn4:M.thr.length≤4):
  Calls Tryz.prog 30 #[.pointer (some ⟨b,0,none⟩)] w fun e w'=>e=.returned (.bool M.rests)∧w'=w:=by
 obtain⟨D,h⟩:=mcH_of h;obtain⟨hl,h1⟩:=mcX_open h;obtain⟨n,hn⟩:∃n,M.thr.length=n:=⟨_,rfl⟩;have hk:=h1.blk;have kl:=hk.lt;have k9:w.cell? ⟨b,9,none⟩=some (.slice D.tA n D.tc):=by rw[←hn];exact hk.cell 9
 have HRO:Hid (∀k,k<n→∃(g tb:Nat) (t:PTh),M.thr[k]?=some t∧D.tA=some ⟨g,0,none⟩∧g<w.heap.size∧w.cell? ⟨g,k,none⟩=some (.pointer (some ⟨tb,0,none⟩))∧Calls Tryz.prog 49 #[.pointer (some ⟨tb,0,none⟩)] w fun e w'=>e=.returned (.int .i64 t.state)∧w'=w):=h_ (fun k hk=>by
  obtain⟨t,ht⟩:∃t,M.thr[k]?=some t:=⟨_,List.getElem?_eq_getElem (by omega)⟩
  obtain⟨tb,R,hb,hR,_⟩:=thAll_at M.s D.bs M.thr hl k t ht;obtain⟨g,hA,hg,hc⟩:=mcRow_at (h1.perm (by ac_rfl:_=(bk b 97 (mcC M D)*memH (shOf M.s) D.mb M.mem)*(mcRow M D*(thAll M.s D.bs M.thr*F)))) hb
  have h2:Sat ω w (thH tb M.s t*(R*(bk b 97 (mcC M D)*(memH (shOf M.s) D.mb M.mem*(mcRow M D*F))))):=h1.perm (by rw[hR];ac_rfl)
  exact⟨g,tb,t,ht,hA,hg,hc,th_state ω w _ tb M.s t h2⟩)
 have HY:Hid ((∀(j:Nat) (t:PTh),j<n→M.thr[j]?=some t→t.state=6∨t.state=4)→M.rests=true):=h_ (fun h9=>rests_take hn h9)
 have HN:Hid (∀(j:Nat) (t:PTh),M.thr[j]?=some t→t.state≠6→t.state≠4→M.rests=false):=h_ (fun j t ht h6 h4=>rests_miss ht h6 h4)
 obtain⟨rs,hrs⟩:∃rs,M.rests=rs:=⟨_,rfl⟩;rw[hrs] at HY HN ⊢;rw[hn] at hn4;go_enter Tryz.func30,Tryz.ntmps30;go_wp2;go_loopw [4,5,11] (fun _ _ i wr=>∃k:Nat,k≤n∧i=.int .i64 k∧wr=w∧Hid (∀(j:Nat) (t:PTh),j<k→M.thr[j]?=some t→t.state=6∨t.state=4)) (fun _ _ i _=>n-(intOf i).toNat)
 case atStart=>exact⟨0,by omega,rfl,rfl,fun j t hj=>absurd hj (by omega)⟩
 case round =>
  obtain⟨k,hk,rfl,rfl,HP⟩:=hrel;by_cases hlt:k<n
  ·obtain⟨g,tb,t,ht,hA,hg,hc,hst⟩:=HRO.o k hlt;rw[hA] at k9 ⊢;obtain⟨st,hs⟩:∃st,t.state=st:=⟨_,rfl⟩;rw[hs] at hst;have HST:=h_ hst;by_cases h64:st=6∨st=4
   ·have HP2:Hid (∀(j:Nat) (t:PTh),j<k+1→M.thr[j]?=some t→t.state=6∨t.state=4):=h_ (fun j t' hj ht'=>by
     rcases Nat.lt_or_ge j k with h9|h9
     ·exact HP.o j t' h9 ht'
     ·obtain rfl:j=k:=by omega
      rw[ht] at ht';obtain rfl:=Option.some.inj ht';rw[hs];exact h64)
    rcases h64 with h6|h4
    ·have d6:((st:Int) != 6)=false:=by rw[h6];rfl
     go_wp2_with (go_at_call 49;refine(HST.o).mono ?_;rintro e w1 ⟨rfl,rfl⟩);exact⟨⟨k+1,by omega,by go_num,by first|rfl|trivial,HP2.o⟩,by simp[intOf];omega⟩
    ·have d6:((st:Int) != 6)=true:=by rw[h4];rfl
     have d4:((st:Int) != 4)=false:=by rw[h4];rfl
     go_wp2_with (go_at_call 49;refine(HST.o).mono ?_;rintro e w1 ⟨rfl,rfl⟩);exact⟨⟨k+1,by omega,by go_num,by first|rfl|trivial,HP2.o⟩,by simp[intOf];omega⟩
   ·have hfalse:=HN.o k t ht (by omega) (by omega)
    have d6:((st:Int) != 6)=true:=by simp;omega
    have d4:((st:Int) != 4)=true:=by simp;omega
    have HFA:=h_ hfalse;go_wp2_with (go_at_call 49;refine(HST.o).mono ?_;rintro e w1 ⟨rfl,rfl⟩);first|(go_ret;exact⟨by rw[HFA.o];rfl,rfl⟩)|(go_ret;exact⟨by rw[HFA.o],rfl⟩)
  ·obtain rfl:k=n:=by omega
   have HTR:=h_ (HY.o HP.o);go_wp2;first|(go_ret;exact⟨by rw[HTR.o];rfl,rfl⟩)|(go_ret;exact⟨by rw[HTR.o],rfl⟩)
end
def addsP (p:Nat):List PIns:=[⟨8,0,7,(p:Int),0⟩,⟨1,1,0,0,1⟩,⟨3,0,0,1,0⟩,⟨9,7,0,(p:Int),0⟩,⟨21,0,0,0,0⟩]
def pickN:Nat→PMc→PMc
 |0,m=>m
 |n+1,m=>(pickN n m).pick 0 0
def awakeM:PMc:=PMc.new ⟨40,4,0,0,0,0,9,20⟩ [[addsP 6]]
def awakeB (m:PMc):Bool:=m.mem.words.length==40&&(m.mem.words.getD 6 0==1&&(match m.thr with
 | [t]=>t.state==6&&(t.attempts.length==1&&(match t.results with
  | [r]=>r.slate==[49]
  |_=>false))
 |_=>false))
theorem awake_plain:awakeB (pickN 40 awakeM)=true:=by decide +kernel
theorem ins_mk {dep:Nat→Nat}{k:Nat}(op a b c n:Int)(ha:0≤a∧a<8)(hb:0≤b∧b<8)(hc:0≤c∧c≤40)(hn:0≤n∧n<18446744073709551616)(ho:(op=1∨op=3∨op=8∨op=9∨op=21)∧dep (k+1)=dep k):InsFine dep k ⟨op,a,b,c,n⟩:=⟨ha,hb,hc,hn,.inl ho⟩
theorem addsP_fine (p:Nat)(hp:p≤40):CodeFine (fun _=>0) (addsP p):=by
 refine⟨by simp[addsP],fun k hk=>?_,rfl⟩
 have h6:(addsP p).length=5:=rfl;rw[h6] at hk;have hpa:0≤((p:Nat):Int)∧((p:Nat):Int)≤40:=by omega
 rcases(by omega:k=0∨k=1∨k=2∨k=3∨k=4) with rfl|rfl|rfl|rfl|rfl
 ·exact ins_mk 8 0 7 _ 0 (by decide) (by decide) hpa (by decide) (by decide)
 ·exact ins_mk 1 1 0 0 1 (by decide) (by decide) (by decide) (by decide) (by decide)
 ·exact ins_mk 3 0 0 1 0 (by decide) (by decide) (by decide) (by decide) (by decide)
 ·exact ins_mk 9 7 0 _ 0 (by decide) (by decide) hpa (by decide) (by decide)
 ·exact ins_mk 21 0 0 0 0 (by decide) (by decide) (by decide) (by decide) (by decide)
theorem addsP_ok6:okP (addsP 6)=true:=by decide +kernel
theorem adds_fine:JobFine (addsP 6):=⟨addsP_ok6,_,addsP_fine 6 (by omega)⟩
end Go.Proofs.YtfodmgaliclhfaaGreatDoor
