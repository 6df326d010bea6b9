/- Lemmas for TopPairs; no conditions. -/
import Derived.Test.YtfodmgaliclhfaaGreatDoorGTopA
import Derived.Deep.CutBlock
import Derived.Deep.DeepCutAuto
import Derived.Test.YtfodmgaliclhfaaGreatDoorGCodeNum
import Derived.Test.YtfodmgaliclhfaaGreatDoorGIpAsk
import Derived.Test.YtfodmgaliclhfaaGreatDoorRows
import Derived.Stop.LaidErr
import Derived.Stop.Joined
import Derived.Lib.LaidTab
import Derived.MakeChecks
namespace Go.Proofs.YtfodmgaliclhfaaGreatDoor
set_option linter.unusedVariables false
set_option linter.unusedSimpArgs false
set_option maxRecDepth 100000
set_option maxHeartbeats 16000000
open Go.RowKit
def ProgNew (ω:World)(F:HP)(p:List PIns)(e:Ending)(w':World):Prop:=∃g:Nat,e=.returned (.agg #[.slice (some ⟨g,0,none⟩) p.length p.length])∧Sat ω w' (prH (some ⟨g,0,none⟩) p.length p*F)
theorem prog_new {ω w:World}{F:HP}(h:Sat ω w F)(p:List PIns)(hp:p.length≤40)(o:Obj)(cs:Array Value)(hc:cs.toList=p.flatMap insV):Sat ω ((w.alloc o).alloc (.cells cs 87)) (prH (some ⟨w.heap.size+1,0,none⟩) p.length p*F):=by
 have h1:=(h.junk o).new cs 87;rw[World.size_alloc] at h1;have hsz:cs.size=p.length*5:=by rw[←Array.length_toList,hc,insV_flat]
 have h2:=h1.rowOf (n:=p.length) (size:=5) hsz (by unfold maxLen;omega)
 rw[hc] at h2;exact h2
theorem adds_any (ω w:World)(F:HP)(h:Sat ω w F):Calls Tryz.prog 16 #[.int .i64 6] w (ProgNew ω F (addsP 6)):=by
 have HN:=h_ (fun(o:Obj)=>prog_new h (addsP 6) (by simp[addsP]) o #[.int .i64 8,.int .i64 0,.int .i64 7,.int .i64 6,.int .u64 0,.int .i64 1,.int .i64 1,.int .i64 0,.int .i64 0,.int .u64 1,.int .i64 3,.int .i64 0,.int .i64 0,.int .i64 1,.int .u64 0,.int .i64 9,.int .i64 7,.int .i64 0,.int .i64 6,.int .u64 0,.int .i64 21,.int .i64 0,.int .i64 0,.int .i64 0,.int .u64 0] rfl)
 clear h;go_enter Tryz.func16,Tryz.ntmps16;go_wp2;refine bodyPost_ret (v:=.agg #[.slice (some ⟨w.heap.size+1,0,none⟩) 5 5]) (by simp[results,Tryz.results16,go_sem]) rfl ⟨w.heap.size+1,rfl,HN.o _⟩
theorem pair_any (ω w:World)(F:HP)(h:Sat ω w F)(n:Nat)(read back:Bool):Calls Tryz.prog 9 #[.int .u64 n,.bool read,.bool back] w (ProgNew ω F (pairP n read back)):=by
 cases read<;>cases back
 ·have HN:=h_ (fun(o:Obj)=>prog_new h (pairP n false false) (by simp[pairP,Prs.codeR,Prs.codeW]) o #[.int .i64 1,.int .i64 0,.int .i64 0,.int .i64 0,.int .u64 n,.int .i64 9,.int .i64 7,.int .i64 0,.int .i64 7,.int .u64 0,.int .i64 9,.int .i64 7,.int .i64 0,.int .i64 12,.int .u64 0] rfl)
  clear h;go_enter Tryz.func9,Tryz.ntmps9;go_wp2;refine bodyPost_ret (v:=.agg #[.slice (some ⟨w.heap.size+1,0,none⟩) 3 3]) (by simp[results,Tryz.results9,go_sem]) rfl ⟨w.heap.size+1,rfl,HN.o _⟩
 ·have HN:=h_ (fun(o:Obj)=>prog_new h (pairP n false true) (by simp[pairP,Prs.codeR,Prs.codeW]) o #[.int .i64 1,.int .i64 0,.int .i64 0,.int .i64 0,.int .u64 n,.int .i64 9,.int .i64 7,.int .i64 0,.int .i64 12,.int .u64 0,.int .i64 9,.int .i64 7,.int .i64 0,.int .i64 7,.int .u64 0] rfl)
  clear h;go_enter Tryz.func9,Tryz.ntmps9;go_wp2;refine bodyPost_ret (v:=.agg #[.slice (some ⟨w.heap.size+1,0,none⟩) 3 3]) (by simp[results,Tryz.results9,go_sem]) rfl ⟨w.heap.size+1,rfl,HN.o _⟩
 ·have HN:=h_ (fun(o:Obj)=>prog_new h (pairP n true false) (by simp[pairP,Prs.codeR,Prs.codeW]) o #[.int .i64 8,.int .i64 0,.int .i64 7,.int .i64 7,.int .u64 0,.int .i64 14,.int .i64 0,.int .i64 0,.int .i64 0,.int .u64 0,.int .i64 8,.int .i64 1,.int .i64 7,.int .i64 12,.int .u64 0,.int .i64 15,.int .i64 0,.int .i64 0,.int .i64 0,.int .u64 0,.int .i64 21,.int .i64 0,.int .i64 0,.int .i64 0,.int .u64 0,.int .i64 21,.int .i64 1,.int .i64 0,.int .i64 0,.int .u64 0] rfl)
  clear h;go_enter Tryz.func9,Tryz.ntmps9;go_wp2;refine bodyPost_ret (v:=.agg #[.slice (some ⟨w.heap.size+1,0,none⟩) 6 6]) (by simp[results,Tryz.results9,go_sem]) rfl ⟨w.heap.size+1,rfl,HN.o _⟩
 ·have HN:=h_ (fun(o:Obj)=>prog_new h (pairP n true true) (by simp[pairP,Prs.codeR,Prs.codeW]) o #[.int .i64 8,.int .i64 0,.int .i64 7,.int .i64 12,.int .u64 0,.int .i64 14,.int .i64 0,.int .i64 0,.int .i64 0,.int .u64 0,.int .i64 8,.int .i64 1,.int .i64 7,.int .i64 7,.int .u64 0,.int .i64 15,.int .i64 0,.int .i64 0,.int .i64 0,.int .u64 0,.int .i64 21,.int .i64 0,.int .i64 0,.int .i64 0,.int .u64 0,.int .i64 21,.int .i64 1,.int .i64 0,.int .i64 0,.int .u64 0] rfl)
  clear h;go_enter Tryz.func9,Tryz.ntmps9;go_wp2;refine bodyPost_ret (v:=.agg #[.slice (some ⟨w.heap.size+1,0,none⟩) 6 6]) (by simp[results,Tryz.results9,go_sem]) rfl ⟨w.heap.size+1,rfl,HN.o _⟩
theorem pick_s (M:PMc)(i d:Nat):(M.pick i d).s=M.s:=by
 unfold PMc.pick;split
 ·rfl
 ·simp only;split
  ·rfl
  ·split<;>rfl
theorem pick_picks (M:PMc)(i d:Nat):(M.pick i d).picks≤M.picks+1:=by
 unfold PMc.pick;split
 ·omega
 ·simp only;split
  ·exact Nat.le_refl _
  ·split<;>exact Nat.le_refl _
theorem pickN_fine (M:PMc)(h:McFine M)(hp:PastOk M):∀n,McFine (pickN n M)∧PastOk (pickN n M)∧(pickN n M).picks≤M.picks+n∧(pickN n M).s=M.s
 |0=>⟨h,hp,Nat.le_refl _,rfl⟩
 |n+1=>by
  obtain⟨h1,h2,h3,h4⟩:=pickN_fine M h hp n;refine⟨h1.pick 0 0,h2.pick h1 0 0,?_,?_⟩
  ·have:=pick_picks (pickN n M) 0 0
   show((pickN n M).pick 0 0).picks≤_
   omega
  ·show((pickN n M).pick 0 0).s=_
   rw[pick_s,h4]
theorem awake_fine:McFine awakeM∧PastOk awakeM:=by
 refine⟨McFine.new _ _ fun l hl p hp=>?_,PastOk.new _ _⟩
 simp only[List.mem_singleton] at hl;subst hl;simp only[List.mem_singleton] at hp;subst hp;exact adds_fine
theorem awake_facts:∃t r,(pickN 40 awakeM).mem.words.length=40∧(pickN 40 awakeM).mem.words.getD 6 0=1∧(pickN 40 awakeM).thr=[t]∧t.state=6∧t.attempts.length=1∧t.results=[r]∧r.slate=[49]:=by
 have h:=awake_plain;generalize pickN 40 awakeM=M at *
 unfold awakeB at h;simp only[Bool.and_eq_true,beq_iff_eq] at h;obtain⟨h1,h2,h3⟩:=h;split at h3
 ·rename_i t ht;simp only[Bool.and_eq_true,beq_iff_eq] at h3;obtain⟨h4,h5,h6⟩:=h3;split at h6
  ·rename_i r hr;exact⟨t,r,h1,h2,ht,h4,h5,hr,by simpa using h6⟩
  ·cases h6
 ·cases h3
theorem Sat.rowCellN {ω w:World}{F:HP}{e:TypeId}{s n c:Nat}{A:Option Addr}{xs:List Value}(h:Sat ω w (row e s (.slice A n c) n xs*F)){i:Nat}{v:Value}(hv:xs[i]?=some v):
  ∃g,A=some ⟨g,0,none⟩∧g<w.heap.size∧w.cell? ⟨g,i,none⟩=some v:=by
 rcases h.cases with⟨h1,h2,h3,_⟩|⟨g,cap,cur,h2,h3,h4,h5,h6,h7,h8⟩
 ·subst h3;simp at hv
 ·injection h2 with h2 _ _
  refine⟨g,h2,h8.blk.lt,?_⟩;have hi:i<n*s:=by
   have:=(List.getElem?_eq_some_iff.1 hv).1
   omega
  rw[h8.blk.cell,←hv,←h6,List.getElem?_take,if_pos hi];simp
theorem awake_any [Inhabited PowO](ω w:World)(F:HP)(h:Sat ω w (powH*F)):Calls Tryz.prog 8 #[] w fun e w'=>e=.returned (.bool true)∧Sat ω w' (powH*F):=by
 have HAD:=h_ (adds_any ω w (powH*F) h);have HNW:Hid (∀w1 (g:Nat),Sat ω w1 (prH (some ⟨g,0,none⟩) 5 (addsP 6)*(powH*F))→Calls Tryz.prog 10 #[.agg #[.int .i64 40,.int .i64 4,.int .i64 0,.int .i64 0,.int .u64 0,.int .i64 0,.int .i64 9,.int .i64 20],.slice (some ⟨w1.heap.size+1,0,none⟩) 1 1] ((w1.alloc (.cells #[.slice (some ⟨g,0,none⟩) 5 5] 32)).alloc (.cells #[.slice (some ⟨w1.heap.size,0,none⟩) 1 1] 29)) fun e w'=>∃b,e=.returned (.pointer (some ⟨b,0,none⟩))∧Sat ω w' (mcH b awakeM*(powH*F))):=h_ (fun w1 g h1=>by
  have h2:=(h1.new #[.slice (some ⟨g,0,none⟩) 5 5] 32);have h3:=h2.new #[.slice (some ⟨w1.heap.size,0,none⟩) 1 1] 29;rw[World.size_alloc] at h3;have h4:=(h3.swap.rowOf (n:=1) (size:=1) rfl (by unfold maxLen;omega)).swap
  have h5:=h4.rowOf (n:=1) (size:=1) rfl (by unfold maxLen;omega)
  generalize ((w1.alloc (.cells #[.slice (some ⟨g,0,none⟩) 5 5] 32)).alloc (.cells #[.slice (some ⟨w1.heap.size,0,none⟩) 1 1] 29))=W2 at h5 ⊢;have h6:Sat ω W2 (jjX (some ⟨w1.heap.size+1,0,none⟩) 1 [(some ⟨w1.heap.size,0,none⟩,1)] [[addsP 6]]*(powH*F)):=by
   unfold jjX;have h7:Sat ω W2 (fact (([(some ⟨g,0,none⟩,5)]:List (Option Addr×Nat)).length=[addsP 6].length)*_):=h5.to_fact rfl;have h8:Sat ω W2 (jobsH (some ⟨w1.heap.size,0,none⟩) 1 [addsP 6]*(row 29 1 (.slice (some ⟨w1.heap.size+1,0,none⟩) 1 1) 1 [.slice (some ⟨w1.heap.size,0,none⟩) 1 1]*(powH*F))):=by
    refine Sat.to_ex [(some ⟨g,0,none⟩,5)] ?_;refine h7.perm ?_;show fact _*(row 29 1 (.slice (some ⟨w1.heap.size+1,0,none⟩) 1 1) 1 [.slice (some ⟨w1.heap.size,0,none⟩) 1 1]*(row 32 1 (.slice (some ⟨w1.heap.size,0,none⟩) 1 1) 1 [.slice (some ⟨g,0,none⟩) 5 5]*(prH (some ⟨g,0,none⟩) 5 (addsP 6)*(powH*F))))=(fact _*(row 32 1 (.slice (some ⟨w1.heap.size,0,none⟩) 1 1) 1 [.slice (some ⟨g,0,none⟩) 5 5]*(prH (some ⟨g,0,none⟩) 5 (addsP 6)*emp)))*_
    rw[star_emp];ac_rfl
   refine h8.perm ?_;show _=(row 29 1 (.slice (some ⟨w1.heap.size+1,0,none⟩) 1 1) 1 [.slice (some ⟨w1.heap.size,0,none⟩) 1 1]*(jobsH (some ⟨w1.heap.size,0,none⟩) 1 [addsP 6]*emp))*_
   rw[star_emp];ac_rfl
  have h9:=mc_new ω W2 (powH*F) ⟨40,4,0,0,0,0,9,20⟩ (some ⟨w1.heap.size+1,0,none⟩) 1 1 [[addsP 6]] rfl (by omega) (by omega) (by
   intro l hl;simp only[List.mem_singleton] at hl;subst hl;refine⟨by simp,fun p hp=>?_⟩
   simp only[List.mem_singleton] at hp;subst hp;exact⟨by simp[addsP],addsP_ok6⟩) [(some ⟨w1.heap.size,0,none⟩,1)] rfl h6
  refine h9.mono ?_;rintro e w2 ⟨b,rfl,h10⟩;exact⟨b,rfl,h10.swap.right⟩)
 have HPI:Hid (∀k b w1,k<40→Sat ω w1 (mcH b (pickN k awakeM)*(powH*F))→Calls Tryz.prog 13 #[.pointer (some ⟨b,0,none⟩),.int .i64 0,.int .u8 0] w1 fun e w'=>e=.returned (.int .i64 0)∧Sat ω w' (mcH b (pickN (k+1) awakeM)*(powH*F))):=h_ (fun k b w1 hk h1=>by
  obtain⟨f1,f2,f3,f4⟩:=pickN_fine awakeM awake_fine.1 awake_fine.2 k;have hthr:(pickN k awakeM).thr.length=1:=by rw[f1.len,f4];rfl
  have hpk:awakeM.picks=0:=rfl;refine(mc_pick ω w1 F b (pickN k awakeM) f1 (by omega) 0 0 (by omega) (by omega) h1).mono ?_
  rintro e w2 ⟨rfl,h2⟩;exact⟨rfl,h2⟩)
 have HFC:Hid (∀b w1,Sat ω w1 (mcH b (pickN 40 awakeM)*(powH*F))→Calls Tryz.prog 18 #[.pointer (some ⟨b,0,none⟩)] w1 fun e w2=>∃A c,e=.returned (.slice A 40 c)∧Hid (Calls Tryz.prog 19 #[.pointer (some ⟨b,0,none⟩),.int .i64 0] w2 fun e w3=>∃g g2 c2,e=.returned (.slice (some ⟨g2,0,none⟩) 1 c2)∧A=some ⟨g,0,none⟩∧g<w3.heap.size∧g2<w3.heap.size∧w3.cell? ⟨g,6,none⟩=some (.int .u64 1)∧w3.cell? ⟨g2,2,none⟩=some (.string ⟨#[49]⟩)∧Hid (Calls Tryz.prog 30 #[.pointer (some ⟨b,0,none⟩)] w3 fun e w4=>e=.returned (.bool true)∧w4=w3)∧Hid (Calls Tryz.prog 15 #[.pointer (some ⟨b,0,none⟩)] w3 fun e w4=>∃A c,e=.returned (.slice A 1 c)∧Sat ω w4 (powH*F)))):=h_ (fun b w1 h1=>by
  obtain⟨f1,f2,f3,f4⟩:=pickN_fine awakeM awake_fine.1 awake_fine.2 40;have hpk:awakeM.picks=0:=rfl;obtain⟨t,r,a1,a2,a3,a4,a5,a6,a7⟩:=awake_facts;generalize pickN 40 awakeM=M at *
  refine(mc_words ω w1 (powH*F) b M h1 f1).mono ?_;rintro e w2 ⟨A,c,rfl,h2⟩;refine⟨A,c,by rw[a1],h_ ?_⟩
  have h3:=h2.perm (by ac_rfl:_=mcH b M*(row 22 1 (.slice A M.mem.words.length c) M.mem.words.length (vU M.mem.words)*(powH*F)))
  refine(mc_results ω w2 _ b M h3 0 t (by rw[a3];rfl) (by rw[a6];simp)).mono ?_
  rintro e w3 ⟨A2,c2,rfl,h4⟩;have h5:=h4.perm (by ac_rfl:_=row 22 1 (.slice A M.mem.words.length c) M.mem.words.length (vU M.mem.words)*(row 66 4 (.slice A2 t.results.length c2) t.results.length (t.results.flatMap reV)*(mcH b M*(powH*F))))
  obtain⟨g,eA,hg,hc⟩:=h5.rowCell (i:=6) (v:=.int .u64 1) (by
   have h9:=@vU_at M.mem.words 6 (by omega)
   rw[a2] at h9;simpa using h9)
  obtain⟨g2,eA2,hg2,hc2⟩:=h4.rowCellN (i:=2) (v:=.string ⟨#[49]⟩) (by rw[a6];simp[reV,a7])
  subst eA2;have hat:M.attempts.length=1:=by unfold PMc.attempts;rw[a3];simpa using a5
  have hre:M.rests=true:=by unfold PMc.rests;rw[a3];simp[a4]
  refine⟨g,g2,c2,by rw[a6];rfl,eA,hg,hg2,hc,hc2,h_ ?_,h_ ?_⟩
  ·have h6:=mc_rests ω w3 _ b M (h4.perm (by ac_rfl:_=mcH b M*(row 66 4 (.slice (some ⟨g2,0,none⟩) t.results.length c2) t.results.length (t.results.flatMap reV)*(row 22 1 (.slice A M.mem.words.length c) M.mem.words.length (vU M.mem.words)*(powH*F))))) (by rw[a3];simp)
   rw[hre] at h6;exact h6
  ·refine(mc_attempts ω w3 (row 66 4 (.slice (some ⟨g2,0,none⟩) t.results.length c2) t.results.length (t.results.flatMap reV)*(row 22 1 (.slice A M.mem.words.length c) M.mem.words.length (vU M.mem.words)*F)) b M f1 f2 (by omega) (h4.perm (by ac_rfl))).mono ?_
   rintro e w4 ⟨A4,c4,rfl,qs,hq,h7⟩;refine⟨A4,c4,by rw[hat],?_⟩
   exact(h7.right.right.right.perm (by ac_rfl:_=row 66 4 (.slice (some ⟨g2,0,none⟩) t.results.length c2) t.results.length (t.results.flatMap reV)*(row 22 1 (.slice A M.mem.words.length c) M.mem.words.length (vU M.mem.words)*(powH*F)))).right.right)
 have HA0:Hid (∀b w1,Sat ω w1 (mcH b awakeM*(powH*F))→Sat ω w1 (mcH b (pickN 0 awakeM)*(powH*F))):=h_ (fun b w1 h1=>h1)
 clear h;go_enter Tryz.func8,Tryz.ntmps8;go_wp2_with (first
  |(go_at_call 16;refine(HAD.o).mono ?_;rintro e w1 ⟨g,rfl,h1⟩;have H1:=h_ (HNW.o w1 g h1);clear h1)
  |(go_at_call 10;refine(H1.o).mono ?_;rintro e w2 ⟨b,rfl,h2⟩;have H2:=h_ (HA0.o b w2 h2);clear h2))
 go_loopw [2] (fun c wr=>∃k:Nat,k≤40∧c=.int .i64 k∧Hid (Sat ω wr (mcH b (pickN k awakeM)*(powH*F)))) (fun c _=>40-(intOf c).toNat)
 case atStart=>exact⟨0,by omega,rfl,H2⟩
 case round =>
  obtain⟨k,hk,rfl,HK⟩:=hrel;by_cases hlt:k<40
  ·have HP:=h_ (HPI.o k b _ hlt HK.o);go_wp2_with (go_at_call 13;refine(HP.o).mono ?_;rintro e w3 ⟨rfl,h3⟩;have H3:=h_ h3;clear h3);exact⟨⟨k+1,by omega,by go_num,H3⟩,by simp[intOf];omega⟩
  ·obtain rfl:k=40:=by omega
   have HW:=h_ (HFC.o b _ HK.o);go_wp2_with (first
    |(go_at_call 18;refine(HW.o).mono ?_;rintro e w4 ⟨A,c,rfl,HR⟩)
    |(go_at_call 19;refine(HR.o).mono ?_;rintro e w5 ⟨g,g2,c2,rfl,rfl,kl,kl2,k6,k2,HS,HT⟩)
    |(go_at_call 30;refine(HS.o).mono ?_;rintro e w6 ⟨rfl,rfl⟩)
    |(go_at_call 15;refine(HT.o).mono ?_;rintro e w7 ⟨A7,c7,rfl,h7⟩;have H7:=h_ h7;clear h7))
   go_ret;exact⟨rfl,H7.o⟩
def SuS (N:Nat)(CS:Array Value)(w:World):Prop:=Blk w N 24 CS
theorem su7 {N:Nat}{c0 c1 c2 c3 c4 c5 c6:Value}{w:World}(h:SuS N #[c0,c1,c2,c3,c4,c5,c6] w):N<w.heap.size∧(∀k,w.frozen? ⟨N,k,none⟩=false)∧w.cell? ⟨N,0,none⟩=some c0∧w.cell? ⟨N,1,none⟩=some c1∧w.cell? ⟨N,2,none⟩=some c2∧w.cell? ⟨N,3,none⟩=some c3∧w.cell? ⟨N,4,none⟩=some c4∧w.cell? ⟨N,5,none⟩=some c5∧w.cell? ⟨N,6,none⟩=some c6:=⟨h.lt,h.frozen,h.cell 0,h.cell 1,h.cell 2,h.cell 3,h.cell 4,h.cell 5,h.cell 6⟩
theorem setup_any (ω w:World)(F:HP)(h:Sat ω w F)(a0 a1 a2 a3 a4 a5:Int)(a6:Nat):
  Calls Tryz.prog 11 #[.agg #[.int .i64 a0,.int .i64 a1,.int .i64 a2,.int .i64 a3,.int .i64 a4,.int .i64 a5,.int .u64 a6]] w fun e w'=>∃r:PSt,e=.returned (.agg #[.int .i64 r.words,.int .i64 r.stripes,.int .i64 r.wide,.int .i64 r.threads,.int .u64 r.start,.int .i64 r.spins,.int .i64 r.writes,.int .i64 r.fuel])∧Sat ω w' F:=by
 obtain⟨N,hN⟩:∃N,w.heap.size=N:=⟨_,rfl⟩;have HX:Hid (∀o,Sat ω ((w.alloc (.cells #[.int .i64 a0,.int .i64 a1,.int .i64 a2,.int .i64 a3,.int .i64 a4,.int .i64 a5,.int .u64 a6] 24)).alloc o) (bk N 24 #[.int .i64 a0,.int .i64 a1,.int .i64 a2,.int .i64 a3,.int .i64 a4,.int .i64 a5,.int .u64 a6]*F)):=h_ (fun o=>by rw[←hN];exact(h.new _ _).junk o)
 have HW:Hid (∀(w1:World) (n:Int) (lo hi:Nat),lo≤hi→hi≤1000→Calls Tryz.prog 28 #[.int .i64 n,.int .i64 lo,.int .i64 hi] w1 fun e w'=>∃r:Nat,e=.returned (.int .i64 r)∧w1=w'):=h_ (fun w1 n lo hi b1 b2=>by
  refine(within_any w1 n lo hi b1 b2).mono ?_;rintro e w2 ⟨r,r1,r2,rfl,rfl⟩;exact⟨r,rfl,rfl⟩)
 have HG:Hid ((a6:Int).tmod 1000=((a6%1000:Nat):Int)):=h_ (Int.ofNat_tmod a6 1000).symm;clear h;go_enter Tryz.func11,Tryz.ntmps11;have HS0:SuS N #[.int .i64 a0,.int .i64 a1,.int .i64 a2,.int .i64 a3,.int .i64 a4,.int .i64 a5,.int .u64 a6] (((w.alloc (.cells #[.int .i64 a0,.int .i64 a1,.int .i64 a2,.int .i64 a3,.int .i64 a4,.int .i64 a5,.int .u64 a6] 24)).alloc (.cells #[.int .i64 0,.int .i64 0,.int .i64 0,.int .i64 0,.int .u64 0,.int .i64 0,.int .i64 0,.int .i64 0] 39)).drew):=(HX.o _).blk;go_wp2;refine wp_region_noPanic ?_;refine gH (SuS N #[.int .i64 a0,.int .i64 a1,.int .i64 a2,.int .i64 a3,.int .i64 a4,.int .i64 a5,.int .u64 a6]) HS0 fun hh0=>?_
 refine tH 0 ?_ rfl ?_ (tH 3 ?_ rfl ?_ (tH 6 ?_ rfl ?_ (tH 1 ?_ rfl ?_ (tH 4 ?_ rfl ?_ (tH 7 ?_ rfl ?_ ?_)))));all_goals (try (
  intro w hSw;obtain⟨jl,jf,j0,j1,j2,j3,j4,j5,j6⟩:=su7 hSw;try simp only[Act.put,sA,sB,sC]
  go_simp<;>(try with_reducible rfl)))
 try simp only[Act.put,sA,sB,sC]
 refine rH [2,10] ?_;refine cH rfl (fun K hK=>?_) ?_
 ·go_simp;go_at_call 28;refine(HW.o _ _ 0 4 (by omega) (by omega)).mono ?_;rintro e wA ⟨x2,rfl,rfl⟩
  try go_wp2_with fail
  refine hK.q ?_ fun hh1=>?_
  ·exact HS0
  clear hK K hh0;try simp only[Act.put,sA,sB,sC]
  refine rH [5,10] ?_;refine cH rfl (fun K hK=>?_) ?_
  ·go_simp;go_at_call 28;refine(HW.o _ _ 4 40 (by omega) (by omega)).mono ?_;rintro e wA ⟨x5,rfl,rfl⟩
   try go_wp2_with fail
   refine hK.q ?_ fun hh2=>?_
   ·exact HS0
   clear hK K hh1;try simp only[Act.put,sA,sB,sC]
   refine rH [8,10] ?_;refine cH rfl (fun K hK=>?_) ?_
   ·go_simp;go_at_call 28;refine(HW.o _ _ 20 120 (by omega) (by omega)).mono ?_;rintro e wA ⟨x8,rfl,rfl⟩
    try go_wp2_with fail
    refine hK.q ?_ fun hh3=>?_
    ·exact HS0
    clear hK K hh2;try simp only[Act.put,sA,sB,sC]
    refine tH 9 ?_ rfl ?_ ?_;all_goals (try (
     intro w hSw;obtain⟨jl,jf,j0,j1,j2,j3,j4,j5,j6⟩:=su7 hSw;go_simp<;>(try with_reducible rfl)))
    try simp only[Act.put,sA,sB,sC]
    refine oH 10 rfl fun K hK=>?_
    go_simp;try go_wp2_with fail
    refine hK.q ?_ fun hh4=>?_
    ·exact HS0.alloc _
    clear hK K hh3;try simp only[Act.put,sA,sB,sC]
    refine oH 11 rfl fun K hK=>?_
    go_simp;try go_wp2_with fail
    refine hK.q ?_ fun hh5=>?_
    ·exact Blk.drew (Blk.alloc (HX.o _).blk _)
    clear hK K hh4;try simp only[Act.put,sA,sB,sC]
    refine dH (NoPanic.normal ?_);go_wp2;refine wp_region_noPanic ?_;refine wp_region_held_drew (S:=SuS N #[.int .i64 a0,.int .i64 a1,.int .i64 a2,.int .i64 a3,.int .i64 a4,.int .i64 a5,.int .u64 a6]) (by kernel_rfl) (by exact Blk.alloc (HX.o _).blk _) (fun hh0=>?_)
    refine tH 0 ?_ rfl ?_ (tH 1 ?_ rfl ?_ (tH 3 ?_ rfl ?_ (tH 4 ?_ rfl ?_ (tH 6 ?_ rfl ?_ (tH 7 ?_ rfl ?_ (tH 9 ?_ rfl ?_ (tH 10 ?_ rfl ?_ (tH 11 ?_ rfl ?_ ?_))))))));all_goals (try (
     intro w hSw;obtain⟨jl,jf,j0,j1,j2,j3,j4,j5,j6⟩:=su7 hSw;try simp only[Act.put,sA,sB,sC]
     go_simp<;>(try with_reducible rfl)))
    try simp only[Act.put,sA,sB,sC]
    refine oH 2 rfl fun K hK=>?_
    go_simp;go_at_call 28;refine(HW.o _ _ 32 80 (by omega) (by omega)).mono ?_;rintro e wA ⟨y2,rfl,rfl⟩
    try go_wp2_with fail
    refine hK.q ?_ fun hh1=>?_
    ·exact Blk.alloc (HX.o _).blk _
    clear hK K hh0;try simp only[Act.put,sA,sB,sC]
    refine oH 5 rfl fun K hK=>?_
    go_simp;go_at_call 28;refine(HW.o _ _ 1 16 (by omega) (by omega)).mono ?_;rintro e wA ⟨y5,rfl,rfl⟩
    try go_wp2_with fail
    refine hK.q ?_ fun hh2=>?_
    ·exact Blk.alloc (HX.o _).blk _
    clear hK K hh1;try simp only[Act.put,sA,sB,sC]
    refine oH 8 rfl fun K hK=>?_
    go_simp;go_at_call 28;refine(HW.o _ _ 1 4 (by omega) (by omega)).mono ?_;rintro e wA ⟨y8,rfl,rfl⟩
    try go_wp2_with fail
    refine hK.q ?_ fun hh3=>?_
    ·exact Blk.alloc (HX.o _).blk _
    clear hK K hh2;try simp only[Act.put,sA,sB,sC]
    refine tH 12 ?_ rfl ?_ (tH 13 ?_ rfl ?_ ?_);all_goals (try (
     intro w hSw;obtain⟨jl,jf,j0,j1,j2,j3,j4,j5,j6⟩:=su7 hSw;try simp only[Act.put,sA,sB,sC]
     go_simp<;>(try with_reducible rfl)))
    try simp only[Act.put,sA,sB,sC]
    refine oH 14 rfl fun K hK=>?_
    go_simp;try go_wp2_with fail
    refine hK.q ?_ fun hh4=>?_
    ·exact Blk.alloc (HX.o _).blk _
    clear hK K hh3;try simp only[Act.put,sA,sB,sC]
    refine dH (NoPanic.normal ?_);go_wp2;have hg:=HG.o;try rw[hg]
    try simp only[hg]
    subst hN;refine bodyPost_ret (v:=.agg #[.int .i64 y2,.int .i64 y5,.int .i64 y8,.int .i64 0,.int .u64 ((a6%1000:Nat):Int),.int .i64 x2,.int .i64 x5,.int .i64 x8]) (by simp[results,Tryz.results11,go_sem]) rfl ⟨{ words:=y2,stripes:=y5,wide:=y8,threads:=0,start:=a6%1000,spins:=x2,writes:=x5,fuel:=x8 },rfl,?_⟩
    exact((HX.o _).right.junk _).drewN 2
   refine nH rfl fun K hK=>?_
   ·go_simp;try go_wp2_with fail
    refine hK.q ?_ fun hh3=>?_
    ·exact HS0.alloc _
    clear hK K hh2;try simp only[Act.put,sA,sB,sC]
    refine oH 8 rfl fun K hK=>?_
    go_simp;go_at_call 28;refine(HW.o _ _ 20 120 (by omega) (by omega)).mono ?_;rintro e wA ⟨x8,rfl,rfl⟩
    try go_wp2_with fail
    refine hK.q ?_ fun hh4=>?_
    ·exact HS0.alloc _
    clear hK K hh3;try simp only[Act.put,sA,sB,sC]
    refine tH 9 ?_ rfl ?_ ?_;all_goals (try (
     intro w hSw;obtain⟨jl,jf,j0,j1,j2,j3,j4,j5,j6⟩:=su7 hSw;go_simp<;>(try with_reducible rfl)))
    try simp only[Act.put,sA,sB,sC]
    refine oH 11 rfl fun K hK=>?_
    go_simp;try go_wp2_with fail
    refine hK.q ?_ fun hh5=>?_
    ·exact Blk.drew (Blk.alloc (HX.o _).blk _)
    clear hK K hh4;try simp only[Act.put,sA,sB,sC]
    refine dH (NoPanic.normal ?_);go_wp2;refine wp_region_noPanic ?_;refine wp_region_held_drew (S:=SuS N #[.int .i64 a0,.int .i64 a1,.int .i64 a2,.int .i64 a3,.int .i64 a4,.int .i64 a5,.int .u64 a6]) (by kernel_rfl) (by exact Blk.alloc (HX.o _).blk _) (fun hh0=>?_)
    refine tH 0 ?_ rfl ?_ (tH 1 ?_ rfl ?_ (tH 3 ?_ rfl ?_ (tH 4 ?_ rfl ?_ (tH 6 ?_ rfl ?_ (tH 7 ?_ rfl ?_ (tH 9 ?_ rfl ?_ (tH 10 ?_ rfl ?_ (tH 11 ?_ rfl ?_ ?_))))))));all_goals (try (
     intro w hSw;obtain⟨jl,jf,j0,j1,j2,j3,j4,j5,j6⟩:=su7 hSw;try simp only[Act.put,sA,sB,sC]
     go_simp<;>(try with_reducible rfl)))
    try simp only[Act.put,sA,sB,sC]
    refine oH 2 rfl fun K hK=>?_
    go_simp;go_at_call 28;refine(HW.o _ _ 32 80 (by omega) (by omega)).mono ?_;rintro e wA ⟨y2,rfl,rfl⟩
    try go_wp2_with fail
    refine hK.q ?_ fun hh1=>?_
    ·exact Blk.alloc (HX.o _).blk _
    clear hK K hh0;try simp only[Act.put,sA,sB,sC]
    refine oH 5 rfl fun K hK=>?_
    go_simp;go_at_call 28;refine(HW.o _ _ 1 16 (by omega) (by omega)).mono ?_;rintro e wA ⟨y5,rfl,rfl⟩
    try go_wp2_with fail
    refine hK.q ?_ fun hh2=>?_
    ·exact Blk.alloc (HX.o _).blk _
    clear hK K hh1;try simp only[Act.put,sA,sB,sC]
    refine oH 8 rfl fun K hK=>?_
    go_simp;go_at_call 28;refine(HW.o _ _ 1 4 (by omega) (by omega)).mono ?_;rintro e wA ⟨y8,rfl,rfl⟩
    try go_wp2_with fail
    refine hK.q ?_ fun hh3=>?_
    ·exact Blk.alloc (HX.o _).blk _
    clear hK K hh2;try simp only[Act.put,sA,sB,sC]
    refine tH 12 ?_ rfl ?_ (tH 13 ?_ rfl ?_ ?_);all_goals (try (
     intro w hSw;obtain⟨jl,jf,j0,j1,j2,j3,j4,j5,j6⟩:=su7 hSw;try simp only[Act.put,sA,sB,sC]
     go_simp<;>(try with_reducible rfl)))
    try simp only[Act.put,sA,sB,sC]
    refine oH 14 rfl fun K hK=>?_
    go_simp;try go_wp2_with fail
    refine hK.q ?_ fun hh4=>?_
    ·exact Blk.alloc (HX.o _).blk _
    clear hK K hh3;try simp only[Act.put,sA,sB,sC]
    refine dH (NoPanic.normal ?_);go_wp2;have hg:=HG.o;try rw[hg]
    try simp only[hg]
    subst hN;refine bodyPost_ret (v:=.agg #[.int .i64 y2,.int .i64 y5,.int .i64 y8,.int .i64 0,.int .u64 ((a6%1000:Nat):Int),.int .i64 x2,.int .i64 x5,.int .i64 x8]) (by simp[results,Tryz.results11,go_sem]) rfl ⟨{ words:=y2,stripes:=y5,wide:=y8,threads:=0,start:=a6%1000,spins:=x2,writes:=x5,fuel:=x8 },rfl,?_⟩
    exact((HX.o _).right.junk _).drewN 2
  refine nH rfl fun K hK=>?_
  ·go_simp;try go_wp2_with fail
   refine hK.q ?_ fun hh2=>?_
   ·exact HS0.alloc _
   clear hK K hh1;try simp only[Act.put,sA,sB,sC]
   refine oH 5 rfl fun K hK=>?_
   go_simp;go_at_call 28;refine(HW.o _ _ 4 40 (by omega) (by omega)).mono ?_;rintro e wA ⟨x5,rfl,rfl⟩
   try go_wp2_with fail
   refine hK.q ?_ fun hh3=>?_
   ·exact HS0.alloc _
   clear hK K hh2;try simp only[Act.put,sA,sB,sC]
   refine oH 8 rfl fun K hK=>?_
   go_simp;go_at_call 28;refine(HW.o _ _ 20 120 (by omega) (by omega)).mono ?_;rintro e wA ⟨x8,rfl,rfl⟩
   try go_wp2_with fail
   refine hK.q ?_ fun hh4=>?_
   ·exact HS0.alloc _
   clear hK K hh3;try simp only[Act.put,sA,sB,sC]
   refine tH 9 ?_ rfl ?_ ?_;all_goals (try (
    intro w hSw;obtain⟨jl,jf,j0,j1,j2,j3,j4,j5,j6⟩:=su7 hSw;go_simp<;>(try with_reducible rfl)))
   try simp only[Act.put,sA,sB,sC]
   refine oH 11 rfl fun K hK=>?_
   go_simp;try go_wp2_with fail
   refine hK.q ?_ fun hh5=>?_
   ·exact Blk.drew (Blk.alloc (HX.o _).blk _)
   clear hK K hh4;try simp only[Act.put,sA,sB,sC]
   refine dH (NoPanic.normal ?_);go_wp2;refine wp_region_noPanic ?_;refine wp_region_held_drew (S:=SuS N #[.int .i64 a0,.int .i64 a1,.int .i64 a2,.int .i64 a3,.int .i64 a4,.int .i64 a5,.int .u64 a6]) (by kernel_rfl) (by exact Blk.alloc (HX.o _).blk _) (fun hh0=>?_)
   refine tH 0 ?_ rfl ?_ (tH 1 ?_ rfl ?_ (tH 3 ?_ rfl ?_ (tH 4 ?_ rfl ?_ (tH 6 ?_ rfl ?_ (tH 7 ?_ rfl ?_ (tH 9 ?_ rfl ?_ (tH 10 ?_ rfl ?_ (tH 11 ?_ rfl ?_ ?_))))))));all_goals (try (
    intro w hSw;obtain⟨jl,jf,j0,j1,j2,j3,j4,j5,j6⟩:=su7 hSw;try simp only[Act.put,sA,sB,sC]
    go_simp<;>(try with_reducible rfl)))
   try simp only[Act.put,sA,sB,sC]
   refine oH 2 rfl fun K hK=>?_
   go_simp;go_at_call 28;refine(HW.o _ _ 32 80 (by omega) (by omega)).mono ?_;rintro e wA ⟨y2,rfl,rfl⟩
   try go_wp2_with fail
   refine hK.q ?_ fun hh1=>?_
   ·exact Blk.alloc (HX.o _).blk _
   clear hK K hh0;try simp only[Act.put,sA,sB,sC]
   refine oH 5 rfl fun K hK=>?_
   go_simp;go_at_call 28;refine(HW.o _ _ 1 16 (by omega) (by omega)).mono ?_;rintro e wA ⟨y5,rfl,rfl⟩
   try go_wp2_with fail
   refine hK.q ?_ fun hh2=>?_
   ·exact Blk.alloc (HX.o _).blk _
   clear hK K hh1;try simp only[Act.put,sA,sB,sC]
   refine oH 8 rfl fun K hK=>?_
   go_simp;go_at_call 28;refine(HW.o _ _ 1 4 (by omega) (by omega)).mono ?_;rintro e wA ⟨y8,rfl,rfl⟩
   try go_wp2_with fail
   refine hK.q ?_ fun hh3=>?_
   ·exact Blk.alloc (HX.o _).blk _
   clear hK K hh2;try simp only[Act.put,sA,sB,sC]
   refine tH 12 ?_ rfl ?_ (tH 13 ?_ rfl ?_ ?_);all_goals (try (
    intro w hSw;obtain⟨jl,jf,j0,j1,j2,j3,j4,j5,j6⟩:=su7 hSw;try simp only[Act.put,sA,sB,sC]
    go_simp<;>(try with_reducible rfl)))
   try simp only[Act.put,sA,sB,sC]
   refine oH 14 rfl fun K hK=>?_
   go_simp;try go_wp2_with fail
   refine hK.q ?_ fun hh4=>?_
   ·exact Blk.alloc (HX.o _).blk _
   clear hK K hh3;try simp only[Act.put,sA,sB,sC]
   refine dH (NoPanic.normal ?_);go_wp2;have hg:=HG.o;try rw[hg]
   try simp only[hg]
   subst hN;refine bodyPost_ret (v:=.agg #[.int .i64 y2,.int .i64 y5,.int .i64 y8,.int .i64 0,.int .u64 ((a6%1000:Nat):Int),.int .i64 x2,.int .i64 x5,.int .i64 x8]) (by simp[results,Tryz.results11,go_sem]) rfl ⟨{ words:=y2,stripes:=y5,wide:=y8,threads:=0,start:=a6%1000,spins:=x2,writes:=x5,fuel:=x8 },rfl,?_⟩
   exact((HX.o _).right.junk _).drewN 2
 refine nH rfl fun K hK=>?_
 ·go_simp;try go_wp2_with fail
  refine hK.q ?_ fun hh1=>?_
  ·exact HS0.alloc _
  clear hK K hh0;try simp only[Act.put,sA,sB,sC]
  refine oH 2 rfl fun K hK=>?_
  go_simp;go_at_call 28;refine(HW.o _ _ 0 4 (by omega) (by omega)).mono ?_;rintro e wA ⟨x2,rfl,rfl⟩
  try go_wp2_with fail
  refine hK.q ?_ fun hh2=>?_
  ·exact HS0.alloc _
  clear hK K hh1;try simp only[Act.put,sA,sB,sC]
  refine oH 5 rfl fun K hK=>?_
  go_simp;go_at_call 28;refine(HW.o _ _ 4 40 (by omega) (by omega)).mono ?_;rintro e wA ⟨x5,rfl,rfl⟩
  try go_wp2_with fail
  refine hK.q ?_ fun hh3=>?_
  ·exact HS0.alloc _
  clear hK K hh2;try simp only[Act.put,sA,sB,sC]
  refine oH 8 rfl fun K hK=>?_
  go_simp;go_at_call 28;refine(HW.o _ _ 20 120 (by omega) (by omega)).mono ?_;rintro e wA ⟨x8,rfl,rfl⟩
  try go_wp2_with fail
  refine hK.q ?_ fun hh4=>?_
  ·exact HS0.alloc _
  clear hK K hh3;try simp only[Act.put,sA,sB,sC]
  refine tH 9 ?_ rfl ?_ ?_;all_goals (try (
   intro w hSw;obtain⟨jl,jf,j0,j1,j2,j3,j4,j5,j6⟩:=su7 hSw;go_simp<;>(try with_reducible rfl)))
  try simp only[Act.put,sA,sB,sC]
  refine oH 11 rfl fun K hK=>?_
  go_simp;try go_wp2_with fail
  refine hK.q ?_ fun hh5=>?_
  ·exact Blk.drew (Blk.alloc (HX.o _).blk _)
  clear hK K hh4;try simp only[Act.put,sA,sB,sC]
  refine dH (NoPanic.normal ?_);go_wp2;refine wp_region_noPanic ?_;refine wp_region_held_drew (S:=SuS N #[.int .i64 a0,.int .i64 a1,.int .i64 a2,.int .i64 a3,.int .i64 a4,.int .i64 a5,.int .u64 a6]) (by kernel_rfl) (by exact Blk.alloc (HX.o _).blk _) (fun hh0=>?_)
  refine tH 0 ?_ rfl ?_ (tH 1 ?_ rfl ?_ (tH 3 ?_ rfl ?_ (tH 4 ?_ rfl ?_ (tH 6 ?_ rfl ?_ (tH 7 ?_ rfl ?_ (tH 9 ?_ rfl ?_ (tH 10 ?_ rfl ?_ (tH 11 ?_ rfl ?_ ?_))))))));all_goals (try (
   intro w hSw;obtain⟨jl,jf,j0,j1,j2,j3,j4,j5,j6⟩:=su7 hSw;try simp only[Act.put,sA,sB,sC]
   go_simp<;>(try with_reducible rfl)))
  try simp only[Act.put,sA,sB,sC]
  refine oH 2 rfl fun K hK=>?_
  go_simp;go_at_call 28;refine(HW.o _ _ 32 80 (by omega) (by omega)).mono ?_;rintro e wA ⟨y2,rfl,rfl⟩
  try go_wp2_with fail
  refine hK.q ?_ fun hh1=>?_
  ·exact Blk.alloc (HX.o _).blk _
  clear hK K hh0;try simp only[Act.put,sA,sB,sC]
  refine oH 5 rfl fun K hK=>?_
  go_simp;go_at_call 28;refine(HW.o _ _ 1 16 (by omega) (by omega)).mono ?_;rintro e wA ⟨y5,rfl,rfl⟩
  try go_wp2_with fail
  refine hK.q ?_ fun hh2=>?_
  ·exact Blk.alloc (HX.o _).blk _
  clear hK K hh1;try simp only[Act.put,sA,sB,sC]
  refine oH 8 rfl fun K hK=>?_
  go_simp;go_at_call 28;refine(HW.o _ _ 1 4 (by omega) (by omega)).mono ?_;rintro e wA ⟨y8,rfl,rfl⟩
  try go_wp2_with fail
  refine hK.q ?_ fun hh3=>?_
  ·exact Blk.alloc (HX.o _).blk _
  clear hK K hh2;try simp only[Act.put,sA,sB,sC]
  refine tH 12 ?_ rfl ?_ (tH 13 ?_ rfl ?_ ?_);all_goals (try (
   intro w hSw;obtain⟨jl,jf,j0,j1,j2,j3,j4,j5,j6⟩:=su7 hSw;try simp only[Act.put,sA,sB,sC]
   go_simp<;>(try with_reducible rfl)))
  try simp only[Act.put,sA,sB,sC]
  refine oH 14 rfl fun K hK=>?_
  go_simp;try go_wp2_with fail
  refine hK.q ?_ fun hh4=>?_
  ·exact Blk.alloc (HX.o _).blk _
  clear hK K hh3;try simp only[Act.put,sA,sB,sC]
  refine dH (NoPanic.normal ?_);go_wp2;have hg:=HG.o;try rw[hg]
  try simp only[hg]
  subst hN;refine bodyPost_ret (v:=.agg #[.int .i64 y2,.int .i64 y5,.int .i64 y8,.int .i64 0,.int .u64 ((a6%1000:Nat):Int),.int .i64 x2,.int .i64 x5,.int .i64 x8]) (by simp[results,Tryz.results11,go_sem]) rfl ⟨{ words:=y2,stripes:=y5,wide:=y8,threads:=0,start:=a6%1000,spins:=x2,writes:=x5,fuel:=x8 },rfl,?_⟩
  exact((HX.o _).right.junk _).drewN 2
theorem jobsH_more {ω w:World}{F:HP}{A:Option Addr}{c:Nat}{l:List (List PIns)}(h:Sat ω w (jobsH A c l*F)):∃xs R,Sat ω w (row 32 1 (.slice A l.length c) l.length xs*(R*F)) ∧
  ∀(w':World) (P:HP) A' c' g (p:List PIns),Sat ω w' (row 32 1 (.slice A' (l.length+1) c') (l.length+1) (xs++[.slice (some ⟨g,0,none⟩) p.length p.length])*(prH (some ⟨g,0,none⟩) p.length p*(R*P)))→Sat ω w' (jobsH A' c' (l++[p])*P):=by
 obtain⟨js,h⟩:=h.of_ex;obtain⟨hl,h2⟩:=h.assoc.of_fact;refine⟨jbV js l,jbAll js l,h2.assoc,fun w' P A' c' g p h3=>?_⟩
 obtain⟨e1,e2⟩:=jbV_snoc (some ⟨g,0,none⟩) p.length p js l hl;have e3:(l++[p]).length=l.length+1:=by simp
 refine Sat.to_ex (js++[(some ⟨g,0,none⟩,p.length)]) ?_;refine(Sat.to_fact (by simp[hl]) (h3.perm ?_)).assoc'
 rw[e1,e2,e3];ac_rfl
def jx3 (J:Nat)(a0 a1 a2:Option Addr×Nat)(l0 l1 l2:List (List PIns)):HP:=bk J 29 #[.slice a0.1 l0.length a0.2,.slice a1.1 l1.length a1.2,.slice a2.1 l2.length a2.2]*(jobsH a0.1 a0.2 l0*(jobsH a1.1 a1.2 l1*jobsH a2.1 a2.2 l2))
theorem jobsH_nil {ω w:World}{F:HP}(h:Sat ω w F):Sat ω w (jobsH none 0 []*F):=by
 refine Sat.to_ex [] ?_;refine(Sat.to_fact rfl ?_).assoc';refine Sat.assoc' ?_;refine Sat.nil ?_ _ _;show Sat ω w (emp*F)
 rw[emp_star];exact h
theorem jx3_new {ω w:World}{F:HP}(h:Sat ω w F):Sat ω (w.alloc (.cells #[.slice none 0 0,.slice none 0 0,.slice none 0 0] 29)) (jx3 w.heap.size (none,0) (none,0) (none,0) [] [] []*F):=by
 have h1:=(jobsH_nil (jobsH_nil (jobsH_nil h))).new #[.slice none 0 0,.slice none 0 0,.slice none 0 0] 29;refine h1.perm ?_;show _=(_*(_*(_*_)))*_
 simp only[List.length_nil];ac_rfl
theorem jjAll_put:∀(vs:List (Option Addr×Nat)) (L:List (List (List PIns))),vs.length=L.length→∀i (hi:i<L.length),∃A c R,(jjV vs L)[i]?=some (.slice A (L.getD i []).length c)∧jjAll vs L=jobsH A c (L.getD i [])*R ∧
  ∀A' c' l',jjAll (vs.set i (A',c')) (L.set i l')=jobsH A' c' l'*R∧jjV (vs.set i (A',c')) (L.set i l')=(jjV vs L).set i (.slice A' l'.length c')
 | [],[],_,i,hi=>absurd hi (by simp)
 |a::vs,l::L,h,0,_=>⟨a.1,a.2,jjAll vs L,rfl,rfl,fun A' c' l'=>⟨rfl,rfl⟩⟩
 |a::vs,l::L,h,i+1,hi=>by
  obtain⟨A,c,R,h1,h2,h3⟩:=jjAll_put vs L (by simpa using h) i (by simpa using hi)
  refine⟨A,c,jobsH a.1 a.2 l*R,h1,?_,fun A' c' l'=>⟨?_,?_⟩⟩
  ·show jobsH a.1 a.2 l*jjAll vs L=jobsH A c (L.getD i [])*_
   rw[h2];ac_rfl
  ·show jobsH a.1 a.2 l*jjAll (vs.set i (A',c')) (L.set i l')=_
   rw[(h3 A' c' l').1];ac_rfl
  ·show Value.slice a.1 l.length a.2::jjV (vs.set i (A',c')) (L.set i l')=Value.slice a.1 l.length a.2::(jjV vs L).set i _
   rw[(h3 A' c' l').2]
def jxH (J:Nat)(vs:List (Option Addr×Nat))(L:List (List (List PIns))):HP:=bk J 29 (jjV vs L).toArray*jjAll vs L
theorem jx_more {ω w:World}{F:HP}{J:Nat}{vs:List (Option Addr×Nat)}{L:List (List (List PIns))}(h:Sat ω w (jxH J vs L*F))(hl:vs.length=L.length){i:Nat}(hi:i<L.length):
  ∃A c xs R,w.cell? ⟨J,i,none⟩=some (.slice A (L.getD i []).length c)∧(∀k,w.frozen? ⟨J,k,none⟩=false)∧J<w.heap.size ∧
   Sat ω w (row 32 1 (.slice A (L.getD i []).length c) (L.getD i []).length xs*(bk J 29 (jjV vs L).toArray*(R*F))) ∧
   ∀(w':World) (P:HP) A' c' g (p:List PIns),Sat ω w' (row 32 1 (.slice A' ((L.getD i []).length+1) c') ((L.getD i []).length+1) (xs++[.slice (some ⟨g,0,none⟩) p.length p.length])*(prH (some ⟨g,0,none⟩) p.length p*(bk J 29 (jjV vs L).toArray*(R*P)))) →
    Sat ω (w'.setCell ⟨J,i,none⟩ (.slice A' ((L.getD i []).length+1) c')) (jxH J (vs.set i (A',c')) (L.set i (L.getD i []++[p]))*P):=by
 obtain⟨A,c,R0,h1,h2,h3⟩:=jjAll_put vs L hl i hi;have h4:Sat ω w (bk J 29 (jjV vs L).toArray*(jobsH A c (L.getD i [])*(R0*F))):=h.perm (by unfold jxH;rw[h2];ac_rfl)
 obtain⟨xs,R,h5,h6⟩:=jobsH_more h4.swap;have hb:=h4.blk;refine⟨A,c,xs,R*R0,by rw[hb.cell];simpa using h1,hb.frozen,hb.lt,h5.perm (by ac_rfl),fun w' P A' c' g p h7=>?_⟩
 have h8:=h6 w' (bk J 29 (jjV vs L).toArray*(R0*P)) A' c' g p (h7.perm (by ac_rfl))
 have h9:=h8.swap.put i (.slice A' ((L.getD i []).length+1) c') rfl;have e1:=h3 A' c' (L.getD i []++[p]);refine h9.perm ?_;unfold jxH;rw[e1.1,e1.2];simp only[List.length_append,List.length_cons,List.length_nil,List.setIfInBounds_toArray];ac_rfl
theorem jx_new {ω w:World}{F:HP}(h:Sat ω w F):Sat ω (w.alloc (.cells #[.slice none 0 0,.slice none 0 0,.slice none 0 0] 29)) (jxH w.heap.size [(none,0),(none,0),(none,0)] [[],[],[]]*F):=by
 refine(jx3_new h).perm ?_;show(_*(_*(_*_)))*F=(_*(_*(_*(_*emp))))*F
 rw[star_emp];rfl
theorem jx_jj {ω w:World}{F:HP}{J:Nat}{vs:List (Option Addr×Nat)}{L:List (List (List PIns))}(hl:vs.length=L.length)(hm:L.length≤3)(h:Sat ω w (jxH J vs L*F)):Sat ω w (jjX (some ⟨J,0,none⟩) L.length vs L*F):=by
 have h1:Sat ω w (bk J 29 (jjV vs L).toArray*(jjAll vs L*F)):=h.assoc;have h2:=h1.rowOf (n:=L.length) (size:=1) (by simp[jjV,hl]) (by unfold maxLen;omega)
 exact h2.assoc'
theorem jobs3_step (ks:List Nat)(k:Nat):jobs3 ks (k+1)=(jobs3 ks k).set (k%3) ((jobs3 ks k).getD (k%3) []++[pairP (k+1) (ks.getD k 0%2==1) (ks.getD k 0 / 2%2==1)]):=by
 have h3:k%3<3:=Nat.mod_lt _ (by omega)
 unfold jobs3;simp only[jobsAt_succ];rcases(by omega:k%3=0∨k%3=1∨k%3=2) with h|h|h<;>rw[h]<;>rfl
structure PaInv (st:Nat) (M:PMc):Prop where
 fine:McFine M
 past:PastOk M
 inv:∃H,Prs.MInv M st H
 len:M.thr.length=3
theorem PaInv.pick {st:Nat}{M:PMc}(h:PaInv st M)(i d:Nat):PaInv st (M.pick i d):=by
 have hf:=h.fine.pick i d;obtain⟨H,hi⟩:=h.inv;refine⟨hf,h.past.pick h.fine i d,Prs.pick_ok hi i d,?_⟩;rw[hf.len,pick_s,←h.fine.len];exact h.len
theorem PaInv.new (r:PSt)(ks:List Nat)(k:Nat)(hk:k≤15):PaInv (PMc.new r (jobs3 ks k)).s.start (PMc.new r (jobs3 ks k)):=by
 refine⟨McFine.new r _ fun l hl p hp=>(jobs3_all ks k hk l hl p hp).1,PastOk.new r _,⟨[],Prs.new_inv r _ fun l hl p hp=>(jobs3_all ks k hk l hl p hp).2⟩,?_⟩
 show(List.map _ (List.range (max 1 (min ((jobs3 ks k).take 4).length 4)))).length=3
 simp[jobs3]
theorem PaInv.good {st:Nat}{M:PMc}(h:PaInv st M):∀a∈M.attempts,Prs.goodR a.reads:=by
 obtain⟨H,hi⟩:=h.inv;exact hi.good
theorem filter_short:∀k:Fin 16,∀r:Fin 3,((List.range k.1).filter (fun i=>i%3==r.1)).length≤6:=by decide +kernel
theorem jobs3_short (ks:List Nat)(k:Nat)(hk:k≤15):∀l∈jobs3 ks k,l.length≤6∧∀p∈l,p.length≤40∧okP p=true:=by
 intro l hl;refine⟨?_,fun p hp=>⟨?_,(jobs3_all ks k hk l hl p hp).1.1⟩⟩
 ·simp only[jobs3,List.mem_cons,List.not_mem_nil,or_false] at hl;rcases hl with rfl|rfl|rfl
  ·unfold jobsAt;rw[List.length_map];exact filter_short ⟨k,by omega⟩ 0
  ·unfold jobsAt;rw[List.length_map];exact filter_short ⟨k,by omega⟩ 1
  ·unfold jobsAt;rw[List.length_map];exact filter_short ⟨k,by omega⟩ 2
 ·obtain⟨dep,hc⟩:=(jobs3_all ks k hk l hl p hp).1.2;exact hc.len
theorem toV_len (p:Value×Value)(t:PTo):(toV p t).length=14:=rfl
theorem toVs_at:∀(qs:List (Value×Value)) (ts:List PTo),qs.length=ts.length→∀(i:Nat) (t:PTo),ts[i]?=some t→∃q R,(toVs qs ts)[i*14+10]?=some q.1∧toAll qs ts=toH q t*R
 | [],[],_,i,t,ht=>by simp at ht
 |q::qs,u::ts,h,0,t,ht=>by
  simp only[List.getElem?_cons_zero,Option.some.injEq] at ht;subst ht;exact⟨q,toAll qs ts,rfl,rfl⟩
 |q::qs,u::ts,h,i+1,t,ht=>by
  obtain⟨q1,R,h1,h2⟩:=toVs_at qs ts (by simpa using h) i t (by simpa using ht)
  refine⟨q1,toH q u*R,?_,?_⟩
  ·show(toV q u++toVs qs ts)[_]?=_
   rw[List.getElem?_append_right (by rw[toV_len];omega),toV_len,←h1]
   congr 1
   omega
  ·show toH q u*toAll qs ts=_
   rw[h2];ac_rfl
theorem vS_word:∀(l:List (Nat×Nat)) (i:Nat) (x:Nat×Nat),l[i]?=some x→(vS l)[i*2+1]?=some (.int .u64 x.2)
 | [],i,x,h=>by simp at h
 |y::l,0,x,h=>by
  simp only[List.getElem?_cons_zero,Option.some.injEq] at h;subst h;rfl
 |y::l,i+1,x,h=>by
  have h1:=vS_word l i x (by simpa using h)
  show(seV y++vS l)[_]?=_
  rw[List.getElem?_append_right (by show 2≤_;omega),←h1]
  congr 1
  show(i+1)*2+1-2=_
  omega
theorem row_max {ω w:World}{F:HP}{e:TypeId}{s n c:Nat}{A:Option Addr}{xs:List Value}(h:Sat ω w (row e s (.slice A n c) n xs*F)):n≤maxLen:=by
 rcases h.cases with⟨h1,h2,h3,_⟩|⟨g,cap,cur,h2,h3,h4,h5,h6,h7,h8⟩
 ·omega
 ·omega
theorem att_reads {ω w:World}{X:HP}{ts:List PTo}{A:Option Addr}{c:Nat}{qs:List (Value×Value)}(hq:qs.length=ts.length)(h:Sat ω w (row 52 14 (.slice A ts.length c) ts.length (toVs qs ts)*(toAll qs ts*X))){i:Nat}{t:PTo}(ht:ts[i]?=some t):
  ∃g B d,A=some ⟨g,0,none⟩∧g<w.heap.size∧w.cell? ⟨g,i*14+10,none⟩=some (.slice B t.reads.length d) ∧
   ∀(k:Nat) (x:Nat×Nat),t.reads[k]?=some x→∃gb,B=some ⟨gb,0,none⟩∧gb<w.heap.size∧w.cell? ⟨gb,k*2+1,none⟩=some (.int .u64 x.2):=by
 obtain⟨q,R,h1,h2⟩:=toVs_at qs ts hq i t ht;obtain⟨g,hA,hg,hc⟩:=h.rowCellN h1;have h3:Sat ω w (row 54 2 q.1 t.reads.length (vS t.reads)*(row 54 2 q.2 t.cells.length (vS t.cells)*(R*X))):=by
  rw[h2] at h;refine h.right.perm ?_;unfold toH;ac_rfl
 obtain⟨B,d,hB⟩:∃B d,q.1=.slice B t.reads.length d:=by
  rcases h3.cases with⟨h4,h5,_⟩|⟨g,cap,cur,h4,_⟩
  ·exact⟨none,0,by rw[h4,h5]⟩
  ·exact⟨_,_,h4⟩
 rw[hB] at hc h3;exact⟨g,B,d,hA,hg,hc,fun k x hx=>h3.rowCellN (vS_word _ k x hx)⟩
theorem reads_cases {l:List (Nat×Nat)}(h:Prs.goodR l):l=[]∨(∃x,l=[x])∨∃x y,l=[x,y]∧x.2=y.2:=by
 obtain⟨h1,h2⟩:=h
 match l,h1,h2 with
 | [],_,_=>exact .inl rfl
 | [x],_,_=>exact .inr (.inl ⟨x,rfl⟩)
 | [x,y],_,h2=>exact .inr (.inr ⟨x,y,rfl,h2 rfl⟩)
def restOf (W:World):HP:=fun h=>h=fun k=>if k=0 then none else W.heap[k]?
theorem pow_whole [Inhabited PowO]{W:World}(h:W.heap[0]?=some (default:PowO).1):powH*restOf W=wholeOf W:=by
 refine HP.ext fun x=>⟨?_,fun hx=>?_⟩
 ·rintro⟨a,b,hd,rfl,rfl,rfl⟩;show _=_
  funext k;by_cases e:k=0
  ·subst e;simp[h]
  ·simp[e]
 ·rw[show x=_ from hx]
  refine⟨_,_,fun k=>?_,?_,rfl,rfl⟩
  ·by_cases e:k=0
   ·exact .inr (by simp[e])
   ·exact .inl (by simp[e])
  ·funext k;by_cases e:k=0
   ·subst e;simp[h]
   ·simp[e]
def JobS (J r:Nat)(A:Option Addr)(n c gk o x:Nat)(w:World):Prop:=w.cell? ⟨J,r,none⟩=some (.slice A n c)∧(∀k,w.frozen? ⟨J,k,none⟩=false)∧J<w.heap.size∧w.cell? ⟨gk,o,none⟩=some (.int .u8 x)∧gk<w.heap.size
theorem and_one:∀x:Fin 256,(bits BinOp.and IntKind.u8 ((x:Nat):Int) 1==1)=((x:Nat)%2==1):=by decide +kernel
theorem and_two:∀x:Fin 256,(bits BinOp.and IntKind.u8 ((x:Nat):Int) 2==2)=((x:Nat) / 2%2==1):=by decide +kernel
theorem wrap_k:∀x:Fin 16,IntKind.u64.wrap (IntKind.u64.wrap ((x:Nat):Int)+1)=(((x:Nat)+1:Nat):Int):=by decide +kernel
def JobK (J gk o x:Nat)(w:World):Prop:=(∀k,w.frozen? ⟨J,k,none⟩=false)∧J<w.heap.size∧w.cell? ⟨gk,o,none⟩=some (.int .u8 x)∧gk<w.heap.size
theorem jobs3_len (ks:List Nat)(k:Nat)(hk:k≤15)(r:Nat):((jobs3 ks k).getD r []).length≤15:=by
 have h1:∀q,(jobsAt ks k q).length≤15:=fun q=>by
  unfold jobsAt;rw[List.length_map]
  have:=List.length_filter_le (fun i=>i%3==q) (List.range k)
  rw[List.length_range] at this;omega
 unfold jobs3
 match r with
 |0=>exact h1 0
 |1=>exact h1 1
 |2=>exact h1 2
 |r+3=>simp
def PkS (g o:Nat)(T:Int)(D:Nat)(Z:Int)(w:World):Prop:=g<w.heap.size∧w.cell? ⟨g,o,none⟩=some (.int .i64 T)∧w.cell? ⟨g,o+1,none⟩=some (.int .u8 D)∧w.cell? ⟨g,o+2,none⟩=some (.int .i64 Z)
def KsIn (AK:Option Addr)(gk ok m:Nat)(ks:List Nat)(w':World):Prop:=∀i,i<m→AK=some ⟨gk,ok,none⟩∧gk<w'.heap.size∧w'.cell? ⟨gk,ok+i,none⟩=some (.int .u8 ((ks.getD i 0:Nat):Int))
def PsIn (AP:Option Addr)(gp op n:Nat)(fT:Nat→Int)(fD:Nat→Nat)(fZ:Nat→Int)(w':World):Prop:=∀i,i<n→AP=some ⟨gp,op,none⟩∧gp<w'.heap.size∧w'.cell? ⟨gp,op+i*3,none⟩=some (.int .i64 (fT i))∧w'.cell? ⟨gp,op+i*3+1,none⟩=some (.int .u8 (fD i:Int))∧w'.cell? ⟨gp,op+i*3+2,none⟩=some (.int .i64 (fZ i))
theorem infoJobs_:(Tryz.prog.info? 29).map (fun i=>(i.zero,i.size,i.bytes))=some (some (.slice none 0 0),1,24):=by kernel_rfl
theorem pairs_any [Inhabited PowO](ω w:World)(F:HP)(h:Sat ω w (powH*F))(a0 a1 a2 a3 a4 a5:Int)(a6:Nat)(ks:List Nat)(AK:Option Addr)(gk ok m ck:Nat)(hks:ks.length=m)(hk8:∀x∈ks,x<256)
  (HK:Hid (∀w' X,Sat ω w' (X*(powH*F))→KsIn AK gk ok m ks w')) (AP:Option Addr) (gp op n cp:Nat) (fT:Nat→Int) (fD:Nat→Nat) (fZ:Nat→Int) (hfD:∀i,i<n→fD i<256)
  (HPK:Hid (∀w' X,Sat ω w' (X*(powH*F))→PsIn AP gp op n fT fD fZ w')):
  Calls Tryz.prog 3 #[.agg #[.int .i64 a0,.int .i64 a1,.int .i64 a2,.int .i64 a3,.int .i64 a4,.int .i64 a5,.int .u64 a6],.slice AK m ck,.slice AP n cp] w fun e w'=>e=.returned (.bool true)∧Sat ω w' (powH*F):=by
 obtain⟨N,hN⟩:∃N,w.heap.size=N:=⟨_,rfl⟩;have HX:Hid (Sat ω (w.alloc (.cells #[.int .i64 a0,.int .i64 a1,.int .i64 a2,.int .i64 a3,.int .i64 a4,.int .i64 a5,.int .u64 a6] 24)) (bk N 24 #[.int .i64 a0,.int .i64 a1,.int .i64 a2,.int .i64 a3,.int .i64 a4,.int .i64 a5,.int .u64 a6]*(powH*F))):=h_ (by rw[←hN];exact h.new _ _)
 obtain⟨BX,hBX⟩:∃BX:HP,BX=bk N 24 #[.int .i64 a0,.int .i64 a1,.int .i64 a2,.int .i64 a3,.int .i64 a4,.int .i64 a5,.int .u64 a6]:=⟨_,rfl⟩;have HAW:Hid (Calls Tryz.prog 8 #[] (w.alloc (.cells #[.int .i64 a0,.int .i64 a1,.int .i64 a2,.int .i64 a3,.int .i64 a4,.int .i64 a5,.int .u64 a6] 24)) fun e w'=>e=.returned (.bool true)∧Sat ω w' (powH*(BX*F))):=h_ (awake_any ω _ _ (by rw[hBX];exact HX.o.swap))
 have HJ:Hid (∀w1,Sat ω w1 (powH*(BX*F))→∃J,w1.heap.size=J∧Sat ω (w1.alloc (.cells #[.slice none 0 0,.slice none 0 0,.slice none 0 0] 29)) (jxH J [(none,0),(none,0),(none,0)] (jobs3 ks 0)*(BX*(powH*F)))):=h_ (fun w1 h1=>⟨_,rfl,(jx_new h1).perm (by show _=_*_;rw[show jobs3 ks 0=[[],[],[]] from rfl];ac_rfl)⟩)
 have hmk:∀w:World,_:=fun w=>run_make_row' (P:=Tryz.prog) 28 29 (.slice none 0 0) 24 Tryz.underlying28 infoJobs_ rfl .i64 .i64 3 (by omega) (by omega) w
 have hmc:madeCells #[.slice none 0 0] 3=#[.slice none 0 0,.slice none 0 0,.slice none 0 0]:=by first|kernel_rfl|simp[madeCells]
 have e33:((3:Nat):Int)=3:=rfl;simp only[hmc,e33] at hmk;obtain⟨i0,hi0,hz⟩:=Option.map_eq_some_iff.1 infoProg_;simp only[Prod.mk.injEq] at hz;obtain⟨hz0,hz1,hz2⟩:=hz;have HI:=h_ hi0;have HZ0:=h_ hz0;have HZ1:=h_ hz1;have HZ2:=h_ hz2;clear hi0 hz0 hz1 hz2;clear h;go_enter Tryz.func3,Tryz.ntmps3;go_upto_block 0 with(go_at_call 8;refine(HAW.o).mono ?_;rintro e w1 ⟨rfl,h1⟩;obtain⟨J,hJ,h2⟩:=HJ.o w1 h1;have H2:=h_ h2;clear h1 h2)
 go_cut [8] (fun c wx=>∃(k:Nat) (vs:List (Option Addr×Nat)),c=.int .i64 k∧k≤15∧vs.length=3∧Hid (Sat ω wx (jxH J vs (jobs3 ks k)*(BX*(powH*F)))))
 case first =>
  go_wp2_with fail;go_loopw [8] (fun c wr=>∃(k:Nat) (vs:List (Option Addr×Nat)),k≤m∧k≤15∧vs.length=3∧c=.int .i64 k∧Hid (Sat ω wr (jxH J vs (jobs3 ks k)*(BX*(powH*F))))) (fun c _=>15-(intOf c).toNat)
  case atStart=>exact⟨0,[(none,0),(none,0),(none,0)],by omega,by omega,rfl,rfl,H2⟩
  case round =>
   obtain⟨k,vs,hk,hk15,hvs,rfl,HK1⟩:=hrel;by_cases hlt:k<m
   ·by_cases h15:k<15
    ·have d1:(decide ((k:Int)<(m:Int)))=true:=by simp;omega
     have d2:(decide ((k:Int)<15))=true:=by simp;omega
     obtain⟨hKA,hgk,hkc⟩:=HK.o _ _ (HK1.o.perm (by ac_rfl:_=(jxH J vs (jobs3 ks k)*BX)*(powH*F))) k hlt
     obtain⟨r,hr⟩:∃r,k%3=r:=⟨_,rfl⟩;have hr3:r<3:=by omega
     obtain⟨A0,c0,xs,R,q1,q2,q3,q4,q5⟩:=jx_more HK1.o (by rw[hvs];rfl) (i:=r) (by show r<3;exact hr3)
     obtain⟨n0,hn0⟩:∃n0,((jobs3 ks k).getD r []).length=n0:=⟨_,rfl⟩;rw[hn0] at q1 q4 q5;have hrm:(k:Int).tmod 3=(r:Int):=by rw[←hr];exact(Int.ofNat_tmod k 3).symm
     have hrm2:(k:Int)%3=(r:Int):=by omega
     have hri:(r:Int)<3:=by omega
     subst hKA;have hst:=jobs3_step ks k;rw[hr] at hst;have hx8:ks.getD k 0<256:=hk8 _ (by rw[gD,List.getElem?_eq_getElem (by omega)];exact List.getElem_mem _)
     have hHK:=fun w' X hh=>(HK.o w' X hh k hlt).2
     obtain⟨x,hxx⟩:∃x,ks.getD k 0=x:=⟨_,rfl⟩;rw[hxx] at hkc hst hx8 hHK;obtain⟨p,hp⟩:∃p,pairP (k+1) (x%2==1) (x / 2%2==1)=p:=⟨_,rfl⟩;have HPR:Hid (∀w1 G,Sat ω w1 G→Calls Tryz.prog 9 #[.int .u64 (IntKind.u64.wrap (IntKind.u64.wrap (k:Int)+1)),.bool (bits BinOp.and IntKind.u8 (x:Int) 1==1),.bool (bits BinOp.and IntKind.u8 (x:Int) 2==2)] w1 (ProgNew ω G p)):=h_ (fun w1 G hG=>by
      have b1:=and_one ⟨x,hx8⟩;have b2:=and_two ⟨x,hx8⟩;have b3:=wrap_k ⟨k,by omega⟩
      simp only at b1 b2 b3;rw[b1,b2,b3,←hp];exact pair_any ω w1 G hG (k+1) _ _)
     rw[hp] at hst;have hb0:(jjV vs (jobs3 ks k)).toArray[r]?=some (.slice A0 n0 c0):=by
      have h9:=(HK1.o.assoc:Sat ω _ (bk J 29 (jjV vs (jobs3 ks k)).toArray*_)).blk.cell r;rw[←h9];exact q1
     have HSK:Hid (∀w1 G,Sat ω w1 (G*(bk J 29 (jjV vs (jobs3 ks k)).toArray*(R*(BX*(powH*F)))))→JobS J r A0 n0 c0 gk (ok+k) x w1):=h_ (fun w1 G hG=>by
      have hb:=hG.right.blk;obtain⟨y1,y2⟩:=hHK w1 (G*(bk J 29 (jjV vs (jobs3 ks k)).toArray*(R*BX))) (hG.perm (by ac_rfl))
      exact⟨by rw[hb.cell];exact hb0,hb.frozen,hb.lt,y2,y1⟩)
     have HQ4:=h_ q4.drew;have HSF:Hid (∀w1 vs' L,Sat ω w1 (jxH J vs' L*(BX*(powH*F)))→JobK J gk (ok+k) x w1):=h_ (fun w1 vs' L hG=>by
      have hb:=(hG.assoc:Sat ω w1 (bk J 29 (jjV vs' L).toArray*_)).blk;obtain⟨y1,y2⟩:=hHK w1 (jxH J vs' L*BX) (hG.perm (by ac_rfl))
      exact⟨hb.frozen,hb.lt,y2,y1⟩)
     have HRD:Hid (∀(w1:World) B' d' e',Reads (w1.alloc (.cells #[.slice B' d' e'] 32)) (w1.heap.size+1) 1 (some ⟨w1.heap.size,0,none⟩) 1 [.slice B' d' e']):=h_ (fun w1 B' d' e'=>by
      have h9:=Reads.of_blk (size:=1) (n:=1) (Blk.new w1 32 #[.slice B' d' e']) rfl;rw[World.size_alloc] at h9;exact h9)
     have HON:Hid (∀B' d' e',∀u∈([Value.slice B' d' e']:List Value),u.oneCell'=true):=h_ (by intro B' d' e' u hu;simp at hu;subst hu;rfl)
     have hn5:n0≤15:=by
      rw[←hn0,←hr];exact jobs3_len ks k hk15 _
     have HS0:JobS J r A0 n0 c0 gk (ok+k) x wr.drew:=⟨q1,q2,q3,hkc,hgk⟩;have HQ5:Hid (∀wB A' c' g,Sat ω wB (row 32 1 (.slice A' (n0+1) c') (n0+1) (xs++[.slice (some ⟨g,0,none⟩) p.length p.length])*(prH (some ⟨g,0,none⟩) p.length p*(bk J 29 (jjV vs (jobs3 ks k)).toArray*(R*(BX*(powH*F))))))→Sat ω (wB.setCell ⟨J,r,none⟩ (.slice A' (n0+1) c')) (jxH J (vs.set r (A',c')) (jobs3 ks (k+1))*(BX*(powH*F)))):=h_ (fun wB A' c' g hh=>by
      rw[hst];exact q5 wB _ A' c' g p hh)
     have hvs2:∀a,(vs.set r a).length=3:=fun a=>by rw[List.length_set];exact hvs
     have k0:=q1;clear q1 q2 q3 q4 q5 hkc hgk hr hHK hxx hp hb0 hx8;have HST:=h_ hst;clear hst;go_wp2;refine wp_region_noPanic ?_;refine gH (JobK J gk (ok+k) x) HS0.2 fun hh0=>?_
     refine tH 0 ?_ rfl ?_ (tH 1 ?_ rfl ?_ (tH 3 ?_ rfl ?_ (tH 4 ?_ rfl ?_ (tH 8 ?_ rfl ?_ (tH 11 ?_ rfl ?_ (tH 12 ?_ rfl ?_ (tH 17 ?_ rfl ?_ (tH 18 ?_ rfl ?_ (tH 2 ?_ rfl ?_ (tH 5 ?_ rfl ?_ (tH 9 ?_ rfl ?_ (tH 13 ?_ rfl ?_ (tH 19 ?_ rfl ?_ (tH 6 ?_ rfl ?_ (tH 10 ?_ rfl ?_ (tH 14 ?_ rfl ?_ (tH 20 ?_ rfl ?_ (tH 15 ?_ rfl ?_ (tH 21 ?_ rfl ?_ (tH 16 ?_ rfl ?_ (tH 22 ?_ rfl ?_ ?_)))))))))))))))))))));all_goals (try (
      intro w hSw;obtain⟨jf,jl,j1,jl1⟩:=hSw;try simp only[Act.put,sA,sB,sC]
      go_simp<;>(try with_reducible rfl)))
     try simp only[Act.put,sA,sB,sC]
     refine rH [7,23] ?_;refine cH rfl (fun K hK=>?_) ?_
     ·have hs0:=HS0.1;try (have hs1:=HS1.o.1);try (have hs2:=fun o=>(HS2.o o).1)
      go_simp;try go_wp2_with fail
      refine hK.q ?_ fun hh1=>?_
      ·exact HS0.2
      clear hK K hh0;try simp only[Act.put,sA,sB,sC]
      refine oH 23 rfl fun K hK=>?_
      go_simp;go_at_call 9;refine(HPR.o _ _ HQ4.o).mono ?_;rintro e wA ⟨g,rfl,hs⟩;have HA:=h_ (hs.swap);have HS1:=h_ (HSK.o _ _ (HA.o.perm (by ac_rfl:_=(row 32 1 (.slice A0 n0 c0) n0 xs*prH (some ⟨g,0,none⟩) p.length p)*_)));have HS2:=h_ (fun o:Obj=>HSK.o _ _ ((HA.o.junk o).perm (by ac_rfl:_=(row 32 1 (.slice A0 n0 c0) n0 xs*prH (some ⟨g,0,none⟩) p.length p)*_)));clear hs
      try go_wp2_with fail
      refine hK.q ?_ fun hh2=>?_
      ·exact HS1.o.2
      clear hK K hh1;try simp only[Act.put,sA,sB,sC]
      refine oH 24 rfl fun K hK=>?_
      go_simp;try go_wp2_with fail
      refine hK.q ?_ fun hh3=>?_
      ·exact(HS2.o _).2
      clear hK K hh2;try simp only[Act.put,sA,sB,sC]
      refine oH 25 rfl fun K hK=>?_
      refine sap 29 32 1 24 Tryz.underlying29 HI.o HZ0.o HZ1.o HZ2.o (HA.o.junk _) (HRD.o _ _ _ _) (HON.o _ _ _) ?_;intro A' c' wB hs;have HB:=h_ hs;have HS9:=h_ (HSK.o _ _ (HB.o.perm (by ac_rfl:_=(row 32 1 (.slice A' (n0+1) c') (n0+1) _*prH (some ⟨g,0,none⟩) p.length p)*_)));have HF:=h_ (HQ5.o wB A' c' g HB.o);clear hs
      try go_wp2_with fail
      refine hK.q ?_ fun hh4=>?_
      ·exact HS9.o.2
      clear hK K hh3;try simp only[Act.put,sA,sB,sC]
      refine tH 26 ?_ rfl ?_ ?_;all_goals (try (
       intro w hSw;obtain⟨jf,jl,j1,jl1⟩:=hSw;go_simp<;>(try with_reducible rfl)))
      try simp only[Act.put,sA,sB,sC]
      refine oH 27 rfl fun K hK=>?_
      obtain⟨i0_,if_,il_,i1_,il1_⟩:=HS9.o;go_simp;try go_wp2_with fail
      refine hK.q ?_ fun hh5=>?_
      ·exact HSF.o _ _ _ HF.o
      clear hK K hh4;try simp only[Act.put,sA,sB,sC]
      refine dH (NoPanic.normal ?_);go_wp2;exact⟨⟨k+1,vs.set r (A',c'),by omega,by omega,hvs2 _,by go_num,HF⟩,by simp[intOf];omega⟩
     refine nH rfl fun K hK=>?_
     ·go_simp;go_at_call 9;refine(HPR.o _ _ HQ4.o).mono ?_;rintro e wA ⟨g,rfl,hs⟩;have HA:=h_ (hs.swap);have HS1:=h_ (HSK.o _ _ (HA.o.perm (by ac_rfl:_=(row 32 1 (.slice A0 n0 c0) n0 xs*prH (some ⟨g,0,none⟩) p.length p)*_)));have HS2:=h_ (fun o:Obj=>HSK.o _ _ ((HA.o.junk o).perm (by ac_rfl:_=(row 32 1 (.slice A0 n0 c0) n0 xs*prH (some ⟨g,0,none⟩) p.length p)*_)));clear hs
      try go_wp2_with fail
      refine hK.q ?_ fun hh1=>?_
      ·exact HS1.o.2
      clear hK K hh0;try simp only[Act.put,sA,sB,sC]
      refine rH [7,24] ?_;refine cH rfl (fun K hK=>?_) ?_
      ·have hs0:=HS0.1;try (have hs1:=HS1.o.1);try (have hs2:=fun o=>(HS2.o o).1)
       go_simp;try go_wp2_with fail
       refine hK.q ?_ fun hh2=>?_
       ·exact HS1.o.2
       clear hK K hh1;try simp only[Act.put,sA,sB,sC]
       refine oH 24 rfl fun K hK=>?_
       go_simp;try go_wp2_with fail
       refine hK.q ?_ fun hh3=>?_
       ·exact(HS2.o _).2
       clear hK K hh2;try simp only[Act.put,sA,sB,sC]
       refine oH 25 rfl fun K hK=>?_
       refine sap 29 32 1 24 Tryz.underlying29 HI.o HZ0.o HZ1.o HZ2.o (HA.o.junk _) (HRD.o _ _ _ _) (HON.o _ _ _) ?_;intro A' c' wB hs;have HB:=h_ hs;have HS9:=h_ (HSK.o _ _ (HB.o.perm (by ac_rfl:_=(row 32 1 (.slice A' (n0+1) c') (n0+1) _*prH (some ⟨g,0,none⟩) p.length p)*_)));have HF:=h_ (HQ5.o wB A' c' g HB.o);clear hs
       try go_wp2_with fail
       refine hK.q ?_ fun hh4=>?_
       ·exact HS9.o.2
       clear hK K hh3;try simp only[Act.put,sA,sB,sC]
       refine tH 26 ?_ rfl ?_ ?_;all_goals (try (
        intro w hSw;obtain⟨jf,jl,j1,jl1⟩:=hSw;go_simp<;>(try with_reducible rfl)))
       try simp only[Act.put,sA,sB,sC]
       refine oH 27 rfl fun K hK=>?_
       obtain⟨i0_,if_,il_,i1_,il1_⟩:=HS9.o;go_simp;try go_wp2_with fail
       refine hK.q ?_ fun hh5=>?_
       ·exact HSF.o _ _ _ HF.o
       clear hK K hh4;try simp only[Act.put,sA,sB,sC]
       refine dH (NoPanic.normal ?_);go_wp2;exact⟨⟨k+1,vs.set r (A',c'),by omega,by omega,hvs2 _,by go_num,HF⟩,by simp[intOf];omega⟩
      refine nH rfl fun K hK=>?_
      ·go_simp;try go_wp2_with fail
       refine hK.q ?_ fun hh2=>?_
       ·exact(HS2.o _).2
       clear hK K hh1;try simp only[Act.put,sA,sB,sC]
       refine oH 7 rfl fun K hK=>?_
       have hs0:=HS0.1;try (have hs1:=HS1.o.1);try (have hs2:=fun o=>(HS2.o o).1)
       go_simp;try go_wp2_with fail
       refine hK.q ?_ fun hh3=>?_
       ·exact(HS2.o _).2
       clear hK K hh2;try simp only[Act.put,sA,sB,sC]
       refine oH 25 rfl fun K hK=>?_
       refine sap 29 32 1 24 Tryz.underlying29 HI.o HZ0.o HZ1.o HZ2.o (HA.o.junk _) (HRD.o _ _ _ _) (HON.o _ _ _) ?_;intro A' c' wB hs;have HB:=h_ hs;have HS9:=h_ (HSK.o _ _ (HB.o.perm (by ac_rfl:_=(row 32 1 (.slice A' (n0+1) c') (n0+1) _*prH (some ⟨g,0,none⟩) p.length p)*_)));have HF:=h_ (HQ5.o wB A' c' g HB.o);clear hs
       try go_wp2_with fail
       refine hK.q ?_ fun hh4=>?_
       ·exact HS9.o.2
       clear hK K hh3;try simp only[Act.put,sA,sB,sC]
       refine tH 26 ?_ rfl ?_ ?_;all_goals (try (
        intro w hSw;obtain⟨jf,jl,j1,jl1⟩:=hSw;go_simp<;>(try with_reducible rfl)))
       try simp only[Act.put,sA,sB,sC]
       refine oH 27 rfl fun K hK=>?_
       obtain⟨i0_,if_,il_,i1_,il1_⟩:=HS9.o;go_simp;try go_wp2_with fail
       refine hK.q ?_ fun hh5=>?_
       ·exact HSF.o _ _ _ HF.o
       clear hK K hh4;try simp only[Act.put,sA,sB,sC]
       refine dH (NoPanic.normal ?_);go_wp2;exact⟨⟨k+1,vs.set r (A',c'),by omega,by omega,hvs2 _,by go_num,HF⟩,by simp[intOf];omega⟩
    ·have d1:(decide ((k:Int)<(m:Int)))=true:=by simp;omega
     have d2:(decide ((k:Int)<15))=false:=by simp;omega
     go_wp2_with fail;go_meet;exact⟨k,vs,rfl,hk15,hvs,HK1⟩
   ·have d1:(decide ((k:Int)<(m:Int)))=false:=by simp;omega
    go_wp2_with fail;go_meet;exact⟨k,vs,rfl,hk15,hvs,HK1⟩
 case rest =>
  obtain⟨k,vs,rfl,hk15,hvs,HK1⟩:=hcut;obtain⟨L,hL⟩:∃L,jobs3 ks k=L:=⟨_,rfl⟩;obtain⟨G,hG⟩:∃G:HP,G=jjX (some ⟨J,0,none⟩) 3 vs L*(BX*F):=⟨_,rfl⟩;have HIN:Hid (∀r:PSt,∃st,PaInv st (PMc.new r L)):=h_ (fun r=>⟨_,by rw[←hL];exact PaInv.new r ks k hk15⟩)
  have HSU:Hid (∀w1 X,Sat ω w1 X→Calls Tryz.prog 11 #[.agg #[.int .i64 a0,.int .i64 a1,.int .i64 a2,.int .i64 a3,.int .i64 a4,.int .i64 a5,.int .u64 a6]] w1 fun e w'=>∃r:PSt,e=.returned (.agg #[.int .i64 r.words,.int .i64 r.stripes,.int .i64 r.wide,.int .i64 r.threads,.int .u64 r.start,.int .i64 r.spins,.int .i64 r.writes,.int .i64 r.fuel])∧Hid (Sat ω w' X)):=h_ (fun w1 X h1=>setup_any ω w1 X h1 a0 a1 a2 a3 a4 a5 a6)
  have HNW:Hid (∀w1 (r:PSt),Sat ω w1 (jxH J vs L*(BX*(powH*F)))→Calls Tryz.prog 10 #[.agg #[.int .i64 r.words,.int .i64 r.stripes,.int .i64 r.wide,.int .i64 r.threads,.int .u64 r.start,.int .i64 r.spins,.int .i64 r.writes,.int .i64 r.fuel],.slice (some ⟨J,0,none⟩) 3 3] w1 fun e w'=>∃b M st,e=.returned (.pointer (some ⟨b,0,none⟩))∧Hid (PaInv st M∧M.picks=0)∧Hid (Sat ω w' (mcH b M*(powH*G)))):=h_ (fun w1 r h1=>by
   have hl3:L.length=3:=by rw[←hL];rfl
   have h2:=jx_jj (by rw[hvs,hl3]) (by omega) h1
   rw[hl3] at h2;obtain⟨st,hst⟩:=HIN.o r;refine(mc_new ω w1 (BX*(powH*F)) r (some ⟨J,0,none⟩) 3 3 L hl3 (by omega) (by omega) (fun l hl=>?_) vs (by rw[hvs,hl3]) h2).mono ?_
   ·exact jobs3_short ks k hk15 l (by rw[hL];exact hl)
   ·rintro e w2 ⟨b,rfl,h3⟩;exact⟨b,_,st,rfl,h_ ⟨hst,rfl⟩,h_ (h3.perm (by rw[hG];ac_rfl))⟩)
  have HBX:Hid (Blk wc N 24 #[.int .i64 a0,.int .i64 a1,.int .i64 a2,.int .i64 a3,.int .i64 a4,.int .i64 a5,.int .u64 a6]):=h_ (by
   have h1:=HK1.o.right;rw[hBX] at h1;exact h1.blk)
  rw[hL] at HK1;have kb:=HBX.o;have kf:=kb.frozen;have kl:=kb.lt;have k0:=kb.c 0;have k1:=kb.c 1;have k2:=kb.c 2;have k3:=kb.c 3;have k4:=kb.c 4;have k5:=kb.c 5;have k6:=kb.c 6;clear kb;go_wp2_with (first
   |(go_at_call 11;refine(HSU.o _ _ HK1.o).mono ?_;rintro e w1 ⟨r,rfl,H1⟩)
   |(go_at_call 10;refine(HNW.o _ _ H1.o).mono ?_;rintro e w2 ⟨b,M,st,rfl,HM,H2⟩))
  obtain⟨hM,hMp⟩:=HM.o;have HX0:Hid (∀(w':World) M',Sat ω w' (mcH b M'*(powH*G))→Sat ω w' (powH*F)):=h_ (fun w' M' h1=>by
   have h2:=h1.right;rw[hG] at h2;exact(h2.perm (by ac_rfl:_=(jjX (some ⟨J,0,none⟩) 3 vs L*BX)*(powH*F))).right)
  have HPP:Hid (∀(w':World) X,Sat ω w' (X*(powH*G))→PsIn AP gp op n fT fD fZ w'):=h_ (fun w' X h1 i hi=>by
   refine HPK.o w' (X*(jjX (some ⟨J,0,none⟩) 3 vs L*BX)) (h1.perm ?_) i hi;rw[hG];ac_rfl)
  clear HSU HNW HIN kf kl k0 k1 k2 k3 k4 k5 k6 hL HBX HK1 HAW HJ HX HI HZ0 HZ1 HZ2 hmc hmk hM hMp;go_loopw [10] (fun c wr=>∃(i:Nat) (M:PMc),i≤n∧i≤60∧c=.int .i64 i∧Hid (PaInv st M∧M.picks≤13*i)∧Hid (Sat ω wr (mcH b M*(powH*G)))) (fun c _=>60-(intOf c).toNat)
  case atStart=>exact⟨0,M,by omega,by omega,rfl,h_ ⟨HM.o.1,by rw[HM.o.2];omega⟩,H2⟩
  case round =>
   obtain⟨i,M1,hi,hi60,rfl,HM1,HS1⟩:=hrel;by_cases hlt:i<n
   ·by_cases h60:i<60
    ·have d1:(decide ((i:Int)<(n:Int)))=true:=by simp;omega
     have d2:(decide ((i:Int)<60))=true:=by simp;omega
     obtain⟨hPA,_⟩:=HPP.o _ _ HS1.o i hlt;have hD:=hfD i hlt;have HPS:=h_ (fun w' X hh=>(HPP.o w' X hh i hlt).2)
     obtain⟨T,hT⟩:∃T,fT i=T:=⟨_,rfl⟩;obtain⟨D,hDD⟩:∃D,fD i=D:=⟨_,rfl⟩;obtain⟨Z,hZ⟩:∃Z,fZ i=Z:=⟨_,rfl⟩;rw[hT,hDD,hZ] at HPS;rw[hDD] at hD;clear hT hDD hZ;subst hPA;have HPI:Hid (∀w1 X,Sat ω w1 X→Calls Tryz.prog 12 #[.pointer (some ⟨b,0,none⟩),.agg #[.int .i64 T,.int .u8 D,.int .i64 Z],.int .i64 12] w1 fun e w'=>∃r:Nat,Hid (r≤12)∧e=.returned (.int .i64 r)∧Hid (Sat ω w' X)):=h_ (fun w1 X h1=>pick_any ω w1 X h1 _ T Z D 12 (by omega))
     have HWH:Hid (∀w1 M' X,PaInv st M'→Sat ω w1 (mcH b M'*X)→Calls Tryz.prog 14 #[.pointer (some ⟨b,0,none⟩),.agg #[.int .i64 T,.int .u8 D,.int .i64 Z]] w1 fun e w'=>∃r:Nat,Hid (r<M'.thr.length)∧e=.returned (.int .i64 r)∧Hid (Sat ω w' (mcH b M'*X))):=h_ (fun w1 M' X hM h1=>who_any ω w1 X b M' h1 (by rw[hM.len];omega) (by rw[hM.len];omega) T Z D)
     have HPK2:Hid (∀w1 M' j,PaInv st M'→M'.picks≤10000→j<M'.thr.length→Sat ω w1 (mcH b M'*(powH*G))→Calls Tryz.prog 13 #[.pointer (some ⟨b,0,none⟩),.int .i64 j,.int .u8 D] w1 fun e w'=>e=.returned (.int .i64 0)∧Hid (Sat ω w' (mcH b (M'.pick j D)*(powH*G)))):=h_ (fun w1 M' j hM hp hj h1=>by
      refine(mc_pick ω w1 G b M' hM.fine hp j D hj hD h1).mono ?_;rintro e w2 ⟨rfl,h2⟩;exact⟨rfl,h2⟩)
     have hiI:(i:Int)<(n:Int):=by omega
     clear hD;have HAT:Hid (∀w1 M',PaInv st M'→M'.picks≤10000→Sat ω w1 (mcH b M'*(powH*G))→Calls Tryz.prog 15 #[.pointer (some ⟨b,0,none⟩)] w1 fun e w'=>∃A c ts tl,e=.returned (.slice A tl c)∧Hid (ts.length=tl∧∀a∈ts,Prs.goodR a.reads)∧Hid (AttP ω (mcH b M'*(powH*G)) ts A c w')):=h_ (fun w1 M' hM hp h1=>by
      refine(mc_attempts ω w1 G b M' hM.fine hM.past hp h1).mono ?_;rintro e w2 ⟨A,c,rfl,h2⟩;exact⟨A,c,M'.attempts,_,rfl,⟨rfl,hM.good⟩,h2⟩)
     go_wp2_with fail;go_loopw [11] (fun c wr=>∃(k:Nat) (M2:PMc),k≤13∧c=.int .i64 k∧Hid (PaInv st M2∧M2.picks≤13*i+k)∧Hid (Sat ω wr (mcH b M2*(powH*G)))) (fun c _=>13-(intOf c).toNat)
     case atStart=>exact⟨0,M1,by omega,rfl,h_ ⟨HM1.o.1,by have:=HM1.o.2;omega⟩,HS1⟩
     case round =>
      obtain⟨k2,M2,hk2,rfl,HM2,HS2⟩:=hrel;obtain⟨hgp,hp0,hp1,hp2⟩:=HPS.o _ _ HS2.o;go_upto_region 15 with fail
      go_wp2_with (first
       |(go_at_call 12;refine(HPI.o _ _ HS2.o).mono ?_;rintro e w3 ⟨r,hr,rfl,H3⟩)
       |(go_at_call 15;refine(HAT.o _ M2 HM2.o.1 (by have:=HM2.o.2;omega) H3.o).mono ?_;rintro e w4 ⟨A,c4,ts,tl,rfl,hts,H4⟩))
      ·rename_i hkr KK hKK0;have HKK:=h_ hKK0;clear hKK0;have hr12:=hr.out;have hpk:M2.picks≤10000:=by have:=HM2.o.2;omega
       have HS0:=HPS.o _ _ H3.o.drew;refine wp_region_noPanic ?_;refine gH (PkS gp (op+i*3) T D Z) HS0 fun hh0=>?_
       refine tH 0 ?_ rfl ?_ (tH 1 ?_ rfl ?_ (tH 2 ?_ rfl ?_ (tH 3 ?_ rfl ?_ (tH 4 ?_ rfl ?_ (tH 5 ?_ rfl ?_ (tH 7 ?_ rfl ?_ (tH 8 ?_ rfl ?_ (tH 9 ?_ rfl ?_ (tH 10 ?_ rfl ?_ (tH 11 ?_ rfl ?_ ?_))))))))));all_goals (try (
        intro w hSw;obtain⟨jl,j0,j1,j2⟩:=hSw;try simp only[Act.put,sA,sB,sC]
        go_simp<;>(try with_reducible rfl)))
       try simp only[Act.put,sA,sB,sC]
       refine oH 6 rfl fun K hK=>?_
       go_simp;go_at_call 14;refine(HWH.o _ M2 _ HM2.o.1 H3.o.drew).mono ?_;rintro e wA ⟨j,hj,rfl,HA⟩;try go_wp2_with fail
       refine hK.q ?_ fun hh1=>?_
       ·exact HPS.o _ _ HA.o
       clear hK K hh0;try simp only[Act.put,sA,sB,sC]
       refine oH 12 rfl fun K hK=>?_
       go_simp;go_at_call 13;refine(HPK2.o _ M2 j HM2.o.1 hpk hj.out HA.o).mono ?_;rintro e wB ⟨rfl,HB⟩;try go_wp2_with fail
       refine hK.q ?_ fun hh2=>?_
       ·exact HPS.o _ _ HB.o
       clear hK K hh1;try simp only[Act.put,sA,sB,sC]
       refine dH (NoPanic.normal ?_);have HM3:Hid (PaInv st (M2.pick j D)∧(M2.pick j D).picks≤13*i+(k2+1)):=h_ ⟨HM2.o.1.pick j D,by have h1:=pick_picks M2 j D;have h2:=HM2.o.2;omega⟩
       have hk13:k2+1≤13:=by omega
       clear hr12 hkr hpk;refine HKK.o _ _ ?_;clear HKK;go_wp2;exact⟨⟨k2+1,M2.pick j D,hk13,by go_num,HM3,HB⟩,by simp[intOf];omega⟩
      ·rename_i hkr;obtain⟨qs,hq,h4⟩:=H4.o;have H5:=h_ h4;clear h4 hkr;go_loopw [13] (fun c wr=>∃x:Nat,x≤tl∧c=.int .i64 x∧Hid (Sat ω wr (row 52 14 (.slice A ts.length c4) ts.length (toVs qs ts)*(toAll qs ts*(mcH b M2*(powH*G)))))) (fun c _=>tl-(intOf c).toNat)
       case atStart=>exact⟨0,by omega,rfl,H5⟩
       case round =>
        obtain⟨x,hx,rfl,HR⟩:=hrel;by_cases hxl:x<tl
        ·have d3:(decide ((x:Int)<(tl:Int)))=true:=by simp;omega
         have hxI:(x:Int)<(tl:Int):=by omega
         have hx1:Hid (x+1≤tl):=h_ hxl;have hms:Hid (tl-(x+1)<tl-x):=h_ (by omega)
         have htl:=hts.out.1;have hxm:(x:Int)≤9223372036854775806:=by
          have h9:=row_max HR.o;unfold maxLen at h9;omega
         have hxt:ts[x]?=some (ts[x]'(by omega)):=List.getElem?_eq_getElem (by omega)
         have hgd:=hts.out.2 _ (List.getElem_mem (by omega:x<ts.length))
         generalize ts[x]'(by omega)=tt at hxt hgd
         obtain⟨g,B,d,hA,hgl,hg10,hrd⟩:=att_reads hq HR.o hxt;clear hxt htl;subst hA;have HRN:Hid (∀q,Sat ω (wr.drewN q) (row 52 14 (.slice (some ⟨g,0,none⟩) ts.length c4) ts.length (toVs qs ts)*(toAll qs ts*(mcH b M2*(powH*G))))):=h_ (fun q=>HR.o.drewN q)
         rcases reads_cases hgd with hz|⟨y,hz⟩|⟨y,y2,hz,hy⟩
         ·rw[hz] at hg10;have hg0:wr.cell? ⟨g,x*14+10,none⟩=some (.slice B 0 d):=hg10;clear hrd hgd hz hg10;go_upto_region 22 with fail
          go_quiet (fail);go_wp2_with fail;exact⟨⟨x+1,hx1.out,by go_num,HRN.o _⟩,by have h9:=hms.out;simp[intOf];omega⟩
         ·rw[hz] at hg10;have hg0:wr.cell? ⟨g,x*14+10,none⟩=some (.slice B 1 d):=hg10;clear hrd hgd hz hg10;go_upto_region 22 with fail
          go_quiet (fail);go_wp2_with fail;exact⟨⟨x+1,hx1.out,by go_num,HRN.o _⟩,by have h9:=hms.out;simp[intOf];omega⟩
         ·rw[hz] at hg10 hrd;have hg0:wr.cell? ⟨g,x*14+10,none⟩=some (.slice B 2 d):=hg10;obtain⟨gb,hB,hbl,hb1⟩:=hrd 0 y rfl;obtain⟨gb2,hB2,_,hb3⟩:=hrd 1 y2 rfl;rw[hB] at hB2;injection hB2 with hB2
          injection hB2 with hB2
          subst hB2;subst hB;rw[←hy] at hb3;have hb1':wr.cell? ⟨gb,1,none⟩=some (.int .u64 y.2):=hb1;have hb3':wr.cell? ⟨gb,3,none⟩=some (.int .u64 y.2):=hb3;generalize y.2=yy at *
          clear hrd hgd hz hg10 hb1 hb3 hy;go_upto_region 22 with fail
          go_quiet (fail);go_wp2_with fail;exact⟨⟨x+1,hx1.out,by go_num,HRN.o _⟩,by have h9:=hms.out;simp[intOf];omega⟩
        ·have d3:(decide ((x:Int)<(tl:Int)))=false:=by simp;omega
         have HE:Hid (PaInv st M2∧M2.picks≤13*(i+1)):=h_ ⟨HM2.o.1,by have h1:=HM2.o.2;omega⟩
         have HE2:=h_ HR.o.right.right;go_wp2_with fail;exact⟨⟨i+1,M2,by omega,by omega,by go_num,HE,HE2⟩,by simp[intOf];omega⟩
    ·have d1:(decide ((i:Int)<(n:Int)))=true:=by simp;omega
     have d2:(decide ((i:Int)<60))=false:=by simp;omega
     have HZ:=h_ (HX0.o _ _ HS1.o);go_wp2_with fail;go_ret;exact⟨rfl,HZ.o⟩
   ·have d1:(decide ((i:Int)<(n:Int)))=false:=by simp;omega
    have HZ:=h_ (HX0.o _ _ HS1.o);go_wp2_with fail;go_ret;exact⟨rfl,HZ.o⟩
section
open Go.ChangeShapes Go.WideShapes Go.ChangeAt Go.RowKit Go.Joins Go.Deep
section
variable {H : Type} {enc : TypeId × Value → H} {P : Program} {w : World} {base : Nat} {spare : Nat → Bool} {held : Bool}
theorem open_fields {r:Reach}{b0:Nat}{t:TypeId}{fs:Array Field}{v:Value}{d:DataW H}{p:List MemPlace}(hs:P.underlying t=some (.struct fs))(hone:oneCellFields P fs=true)(hC:P.cellsOf t=fs.size)
  (hv:Value.okWide P w r b0 t v) (h:DataW.Trod enc P w base spare held t v d p):
  ∃(l:List Value) (n:Nat),v=.agg ⟨l⟩∧l.length=fs.size∧∀(j:Nat) (f:Field),fs[j]?=some f→∃c y,l[j]?=some c∧DataW.trod enc P w base spare held n f.type [c]=some y:=by
 obtain⟨cs,rfl,hsz⟩:=okWide_struct hs hv;obtain⟨fuel,hf⟩:=h;obtain⟨xs,n,_,_,_,hlen,hx⟩:=DataW.trod_struct hs hf;rcases cs with⟨l⟩
 have hl:l.length=fs.size:=hsz.trans hC;refine⟨l,n,rfl,hl,fun j f hj=>?_⟩
 obtain⟨ho,hk⟩:=hone_of hone j f hj;have hjl:j<fs.size:=(Array.getElem?_eq_some_iff.1 hj).1;have h1:=hx j f hj;rw[ho,hk,List.getElem?_eq_getElem (by omega)] at h1
 have h2:List.take 1 (List.drop j (Value.agg ⟨l⟩).cells.toList)=[l[j]'(by omega)]:=by
  show(l.drop j).take 1=_
  rw[List.drop_eq_getElem_cons (by omega)]
  rfl
 rw[h2] at h1;exact⟨_,_,List.getElem?_eq_getElem (by omega),h1⟩
theorem open_slice_fields {t e:TypeId}{fs:Array Field}{fuel:Nat}{cs:List Value}{x:DataW H×List MemPlace}(ht:P.underlying t=some (.slice e))(he:P.underlying e=some (.struct fs))
  (hone:oneCellFields P fs=true) (hC:P.cellsOf e=fs.size) (h:DataW.trod enc P w base spare held fuel t cs=some x):
  (cs=[.slice none 0 0]∧x=(.nil,[])) ∨
  ∃(a:Addr) (len cap m:Nat) (D:Nat→DataW H) (Pl:Nat→List MemPlace),cs=[.slice (some a) len cap]∧base≤a.block∧len≤cap∧cap≤maxLen∧m=(if spare a.block then cap else len) ∧
   x=(.slice ((List.range len).map D) ((List.range (m-len)).map fun j=>D (len+j)),MemPlace.row a (m*fs.size)++(List.range m).flatMap Pl) ∧
   ∀i,i<m→∃(ys:List (DataW H×List MemPlace)) (n:Nat),D i=.agg (ys.map (·.1))∧Pl i=ys.flatMap (·.2)∧ys.length=fs.size ∧
    ∀(j:Nat) (f:Field),fs[j]?=some f→∃(v:Value) (y:DataW H×List MemPlace),w.cell? (a.add (i*fs.size+j))=some v∧ys[j]?=some y∧DataW.trod enc P w base spare held n f.type [v]=some y:=by
 rcases open_slice ht h with h0|⟨a,len,cap,m,n,D,Pl,hcs,hb,hl,hm,hmm,hx,hi⟩
 ·exact .inl h0
 ·refine .inr ⟨a,len,cap,m,D,Pl,hcs,hb,hl,hm,hmm,by rw[hC] at hx;exact hx,fun i him=>?_⟩
  obtain⟨cs',hc,ht'⟩:=hi i him;rw[hC] at hc;obtain⟨ys,n',hn',hy,hlen,hyl,hf⟩:=DataW.trod_struct he ht';obtain⟨_,hcl,hat⟩:=World.cells?_some hc;simp only[Prod.mk.injEq] at hy;refine⟨ys,n',hy.1,hy.2,hyl,fun j f hj=>?_⟩
  obtain⟨ho,hk⟩:=hone_of hone j f hj;have hjl:j<fs.size:=(Array.getElem?_eq_some_iff.1 hj).1;have hcell:=hat j hjl;have hv:cs'[j]?=some (cs'[j]'(by omega)):=List.getElem?_eq_getElem (by omega)
  have h1:=hf j f hj;rw[ho,hk] at h1;have hone':(cs'.drop j).take 1=[cs'[j]'(by omega)]:=by
   rw[List.drop_eq_getElem_cons (by omega)]
   rfl
  rw[hone'] at h1;have hys:ys[j]?=some (ys[j]'(by omega)):=List.getElem?_eq_getElem (by omega)
  refine⟨_,_,?_,hys,h1.trans hys⟩;rw[←Go.Deep.add_add,hcell,hv]
end
theorem cellsSetup:Tryz.prog.cellsOf 24=7:=by kernel_rfl
def SetupWf (a6:Int):Prop:=0≤a6∧a6≤18446744073709551615
theorem open_setup {H:Type}{enc:TypeId×Value→H}{w:World}{v:Value}{d:DataW H}{ps:List MemPlace}{b0:Nat}(hv:Value.okWide Tryz.prog w .any b0 24 v)
  (h:DataW.Trod enc Tryz.prog w 0 (fun _=>true) true 24 v d ps):∃(a0 a1 a2 a3 a4 a5 a6:Int),v=.agg #[.int .i64 a0,.int .i64 a1,.int .i64 a2,.int .i64 a3,.int .i64 a4,.int .i64 a5,.int .u64 a6]∧SetupWf a6:=by
 obtain⟨l,n,rfl,hl,hf⟩:=open_fields Tryz.underlying24 (by kernel_rfl) cellsSetup hv h
 match l,hl with
 | [c0,c1,c2,c3,c4,c5,c6],_ =>
  have key:∀(c:Value) (y:DataW H×List MemPlace),DataW.trod enc Tryz.prog w 0 (fun _=>true) true n 3 [c]=some y→∃x,c=.int .i64 x:=fun c y h=>by
   obtain⟨x,e,_⟩:=DataW.trod_int Tryz.underlying3 h;exact⟨x,by simpa using e⟩
  obtain⟨_,_,e0,h0⟩:=hf 0 _ rfl;obtain⟨_,_,e1,h1⟩:=hf 1 _ rfl;obtain⟨_,_,e2,h2⟩:=hf 2 _ rfl;obtain⟨_,_,e3,h3⟩:=hf 3 _ rfl;obtain⟨_,_,e4,h4⟩:=hf 4 _ rfl;obtain⟨_,_,e5,h5⟩:=hf 5 _ rfl;obtain⟨_,_,e6,h6⟩:=hf 6 _ rfl;cases e0;cases e1;cases e2;cases e3;cases e4;cases e5;cases e6;obtain⟨x0,rfl⟩:=key _ _ h0;obtain⟨x1,rfl⟩:=key _ _ h1;obtain⟨x2,rfl⟩:=key _ _ h2;obtain⟨x3,rfl⟩:=key _ _ h3;obtain⟨x4,rfl⟩:=key _ _ h4;obtain⟨x5,rfl⟩:=key _ _ h5;obtain⟨x6,e6,_,w6⟩:=DataW.trod_int Tryz.underlying22 h6;simp at e6;subst e6;have b6:=bounds_u64 w6;exact⟨x0,x1,x2,x3,x4,x5,x6,rfl,by omega,by omega⟩
theorem lt_cell {w:World}{a:Addr}{v:Value}(h:w.cell? a=some v):a.block<w.heap.size:=by
 rcases Nat.lt_or_ge a.block w.heap.size with hlt|hge
 ·exact hlt
 ·exfalso;simp[World.cell?,Array.getElem?_eq_none hge] at h
def BytesArg (w:World)(A:Option Addr)(len:Nat):Prop :=
 ∃ks:List Nat,ks.length=len∧len≤maxLen∧(∀z∈ks,z<256)∧∀i,i<len→∃b o,A=some ⟨b,o,none⟩∧b<w.heap.size∧w.cell? ⟨b,o+i,none⟩=some (.int .u8 ((ks.getD i 0:Nat):Int))
theorem open_bytes {H:Type}{enc:TypeId×Value→H}{w:World}{v:Value}{d:DataW H}{ps:List MemPlace}{b0:Nat}(hv:Value.okWide Tryz.prog w .any b0 25 v)
  (h:DataW.Trod enc Tryz.prog w 0 (fun _=>true) true 25 v d ps):∃A len cap,v=.slice A len cap∧BytesArg w A len:=by
 obtain⟨A,len,cap,rfl⟩:=okWide_slice Tryz.underlying25 hv;obtain⟨fuel,hf⟩:=h;refine⟨A,len,cap,rfl,?_⟩;rcases open_ints Tryz.underlying25 Tryz.underlying5 (by kernel_rfl) hf with⟨hcs,_⟩|⟨a,l,c,zs,hcs,_,hl,hm,hz,_,hcell,hwz⟩
 ·simp[Value.cells] at hcs;obtain⟨rfl,rfl,rfl⟩:=hcs;exact⟨[],rfl,by simp,fun z hz=>by simp at hz,fun i h=>by omega⟩
 ·simp[Value.cells] at hcs;obtain⟨rfl,rfl,rfl⟩:=hcs;have hzl:zs.length=cap:=by rw[hz];simp
  obtain⟨b,o,s⟩:=a;refine⟨(zs.take len).map Int.toNat,by simp;omega,by omega,fun z hz=>?_,fun i hlen=>?_⟩
  ·obtain⟨y,hy,rfl⟩:=List.mem_map.1 hz
   have:=bounds_u8 (hwz y (List.mem_of_mem_take hy))
   omega
  ·have hs:s=none:=by
    have c0:=hcell 0 (by omega)
    simpa [Addr.add] using World.cell?_spot c0
   subst hs;refine⟨b,o,rfl,?_,?_⟩
   ·have c0:=hcell 0 (by omega)
    simpa [Addr.add] using lt_cell c0
   ·have ci:=hcell i (by omega)
    have hy:zs[i]?=some (zs[i]'(by omega)):=List.getElem?_eq_getElem (by omega)
    have hb:=bounds_u8 (hwz _ (List.getElem_mem (by omega:i<zs.length)))
    have hiv:zs.getD i 0=zs[i]'(by omega):=by
     rw[gD,hy];rfl
    have hkv:((zs.take len).map Int.toNat).getD i 0=(zs[i]'(by omega)).toNat:=by
     rw[gD,List.getElem?_map,List.getElem?_take,if_pos hlen,hy];rfl
    rw[hiv] at ci;rw[hkv,show(((zs[i]'(by omega)).toNat:Nat):Int)=zs[i]'(by omega) by omega]
    by_cases hz0:i=0
    ·subst hz0;simpa [Addr.add] using ci
    ·simpa [Addr.add,hz0] using ci
def PickAt (w:World)(b o:Nat)(T:Int)(D:Nat)(N:Int):Prop:=w.cell? ⟨b,o,none⟩=some (.int .i64 T)∧w.cell? ⟨b,o+1,none⟩=some (.int .u8 D)∧w.cell? ⟨b,o+2,none⟩=some (.int .i64 N)
def PicksArg (w:World)(A:Option Addr)(len:Nat):Prop:=len≤maxLen∧∀i,i<len→∃b o T D N,A=some ⟨b,o,none⟩∧b<w.heap.size∧D<256∧PickAt w b (o+i*3) T D N
theorem add_plain' (b o j:Nat):(⟨b,o,none⟩:Addr).add j=⟨b,o+j,none⟩:=by
 unfold Addr.add;split
 ·rename_i h;subst h;rfl
 ·rfl
theorem block_of_add' (a:Addr)(n:Nat):(a.add n).block=a.block:=by unfold Addr.add;split<;>rfl
theorem open_picks {H:Type}{enc:TypeId×Value→H}{w:World}{v:Value}{d:DataW H}{ps:List MemPlace}{b0:Nat}(hv:Value.okWide Tryz.prog w .any b0 26 v)
  (h:DataW.Trod enc Tryz.prog w 0 (fun _=>true) true 26 v d ps):∃A len cap,v=.slice A len cap∧PicksArg w A len:=by
 obtain⟨A,len,cap,rfl⟩:=okWide_slice Tryz.underlying26 hv;obtain⟨fuel,hf⟩:=h;refine⟨A,len,cap,rfl,?_⟩;rcases open_slice_fields Tryz.underlying26 Tryz.underlying43 (by kernel_rfl) (by kernel_rfl) hf with⟨hcs,_⟩|⟨a,l,c,m,D,Pl,hcs,_,hl,hm,hmm,_,hel⟩
 ·simp[Value.cells] at hcs;obtain⟨rfl,rfl,rfl⟩:=hcs;exact⟨by simp,fun i h=>absurd h (by omega)⟩
 ·simp[Value.cells] at hcs;obtain⟨rfl,rfl,rfl⟩:=hcs;refine⟨by omega,fun i hi=>?_⟩
  have hml:len≤m:=by rw[hmm];simp;exact hl
  obtain⟨ys,n,_,_,_,hf⟩:=hel i (by omega)
  obtain⟨v0,y0,c0,_,t0⟩:=hf 0 _ rfl;obtain⟨v1,y1,c1,_,t1⟩:=hf 1 _ rfl;obtain⟨v2,y2,c2,_,t2⟩:=hf 2 _ rfl;obtain⟨x0,e0,_,b0⟩:=DataW.trod_int Tryz.underlying3 t0;obtain⟨x1,e1,_,b1⟩:=DataW.trod_int Tryz.underlying5 t1;obtain⟨x2,e2,_,b2⟩:=DataW.trod_int Tryz.underlying3 t2;simp at e0 e1 e2;subst e0 e1 e2;have g1:=bounds_u8 b1;obtain⟨b,o,s⟩:=a;have hs:s=none:=by
   obtain⟨ys0,n0,_,_,_,hf0⟩:=hel 0 (by omega)
   obtain⟨v00,y00,c00,_,_⟩:=hf0 0 _ rfl;simpa [Addr.add] using World.cell?_spot c00
  subst hs;have hlt:=lt_cell c1;rw[block_of_add'] at hlt;rw[add_plain'] at c0 c1 c2;refine⟨b,o,x0,x1.toNat,x2,rfl,hlt,by omega,?_,?_,?_⟩
  ·simpa using c0
  ·rw[show((x1.toNat:Nat):Int)=x1 by omega]
   simpa [Nat.add_assoc] using c1
  ·simpa [Nat.add_assoc] using c2
end
def rdA (W:World)(a:Addr):Int:=intOf ((W.cell? a).getD undef)
theorem addr_inj {a b c d:Nat}{A:Option Addr}(h1:A=some ⟨a,b,none⟩)(h2:A=some ⟨c,d,none⟩):a=c∧b=d:=by
 rw[h1] at h2;cases h2;exact⟨rfl,rfl⟩
theorem top_pairs (W:World)(a0 a1 a2 a3 a4 a5 a6:Int)(h6:SetupWf a6)(AK:Option Addr)(m ck:Nat)(hk:BytesArg W AK m)(AP:Option Addr)(n cp:Nat)(hp:PicksArg W AP n)(hw:Pow10 W):
  Calls Tryz.prog 3 #[.agg #[.int .i64 a0,.int .i64 a1,.int .i64 a2,.int .i64 a3,.int .i64 a4,.int .i64 a5,.int .u64 a6],.slice AK m ck,.slice AP n cp] W fun e w'=>e=.returned (.bool true)∧Below W.heap.size W w':=by
 obtain⟨x6,rfl⟩:=Int.eq_ofNat_of_zero_le h6.1;have ho:W.heap[0]?=some (W.heap[0]'hw.lt):=Array.getElem?_eq_getElem hw.lt
 letI:Inhabited PowO:=⟨⟨W.heap[0]'hw.lt,fun w' hw'=>hw.block (hw'.trans ho.symm)⟩⟩
 have e:powH*restOf W=wholeOf W:=pow_whole ho;have hold:∀w' X,Sat W w' (X*(powH*restOf W))→Below W.heap.size W w':=fun w' X h=>by
  have h1:=h.right;rw[e] at h1;exact h1.old
 obtain⟨ks,hks,hm,hk8,hkc⟩:=hk;have hK:∃gk ok,∀w' X,Sat W w' (X*(powH*restOf W))→KsIn AK gk ok m ks w':=by
  rcases Nat.eq_zero_or_pos m with h0|h0
  ·exact⟨0,0,fun w' X h i hi=>absurd hi (by omega)⟩
  ·obtain⟨gk,ok,hA,hlt,_⟩:=hkc 0 h0;refine⟨gk,ok,fun w' X h i hi=>?_⟩
   obtain⟨gk2,ok2,hA2,_,hc⟩:=hkc i hi;obtain⟨rfl,rfl⟩:=addr_inj hA hA2;have hb:=hold w' X h;exact⟨hA,Nat.lt_of_lt_of_le hlt hb.size,(hb.cell hlt).trans hc⟩
 obtain⟨gk,ok,hK⟩:=hK;obtain⟨hn,hpc⟩:=hp;have hP:∃gp op,∃(fT:Nat→Int) (fD:Nat→Nat) (fZ:Nat→Int),(∀i,i<n→fD i<256)∧∀w' X,Sat W w' (X*(powH*restOf W))→PsIn AP gp op n fT fD fZ w':=by
  rcases Nat.eq_zero_or_pos n with h0|h0
  ·exact⟨0,0,fun _=>0,fun _=>0,fun _=>0,fun i hi=>absurd hi (by omega),fun w' X h i hi=>absurd hi (by omega)⟩
  ·obtain⟨gp,op,_,_,_,hA,hlt,_⟩:=hpc 0 h0;refine⟨gp,op,fun i=>rdA W ⟨gp,op+i*3,none⟩,fun i=>(rdA W ⟨gp,op+i*3+1,none⟩).toNat,fun i=>rdA W ⟨gp,op+i*3+2,none⟩,fun i hi=>?_,fun w' X h i hi=>?_⟩
   ·obtain⟨gp2,op2,T,D,Z,hA2,_,hD,c0,c1,c2⟩:=hpc i hi;obtain⟨rfl,rfl⟩:=addr_inj hA hA2;show(rdA W ⟨gp,op+i*3+1,none⟩).toNat<256
    rw[rdA,c1];show((D:Int)).toNat<256
    omega
   ·obtain⟨gp2,op2,T,D,Z,hA2,_,hD,c0,c1,c2⟩:=hpc i hi;obtain⟨rfl,rfl⟩:=addr_inj hA hA2;have hb:=hold w' X h;refine⟨hA,Nat.lt_of_lt_of_le hlt hb.size,?_,?_,?_⟩
    ·rw[hb.cell hlt];show _=some (Value.int .i64 (rdA W _));rw[rdA,c0];rfl
    ·rw[hb.cell hlt];show _=some (Value.int .u8 ((rdA W _).toNat:Int));rw[rdA,c1];rfl
    ·rw[hb.cell hlt];show _=some (Value.int .i64 (rdA W _));rw[rdA,c2];rfl
 obtain⟨gp,op,fT,fD,fZ,hD,hP⟩:=hP;refine(pairs_any W W (restOf W) (e▸Sat.whole W) a0 a1 a2 a3 a4 a5 x6 ks AK gk ok m ck hks hk8 (h_ hK) AP gp op n cp fT fD fZ hD (h_ hP)).mono ?_;rintro e2 w' ⟨rfl,h⟩;rw[e] at h;exact⟨rfl,h.old⟩
theorem pow10Type:(Tryz.prog.globals[0]?).map (·.type)=some 399:=by kernel_rfl
theorem cellsPow:Tryz.prog.cellsOf 399=20:=by kernel_rfl
theorem cellsU64:Tryz.prog.cellsOf 22=1:=by kernel_rfl
theorem pow10_data:(Rows.laid_internal_strconv_uint64pow10:DataW Unit)=Lib.tabData .u64 Lib.pow10Tab:=by kernel_rfl
theorem pow10_at {W:World}{a b:String×DataW Unit}{rest:List (String×DataW Unit)}(h:laidMet Tryz.prog (a::b::("internal/strconv.uint64pow10",Rows.laid_internal_strconv_uint64pow10)::rest) W):Pow10 W:=by
 have h2:=laidMet.tail (laidMet.tail h);rw[pow10_data] at h2;exact Lib.tabIs_of_head pow10_named pow10Type Tryz.underlying399 Tryz.underlying22 cellsU64 cellsPow h2
theorem pow10_topPairs {W:World}(h:laidMetH Tryz.prog Rows.topPairsRow.laid W):Pow10 W:=by
 rw[MakeChecks.laidMetH_plain _ _ _ (by kernel_rfl)] at h
 exact pow10_at h
end Go.Proofs.YtfodmgaliclhfaaGreatDoor
