/- Lemmas; no conditions. -/
import Derived.Test.YtfodmgaliclhfaaGreatDoorGTopP
namespace Go.Proofs.YtfodmgaliclhfaaGreatDoor
set_option linter.unusedVariables false
set_option linter.unusedSimpArgs false
set_option maxRecDepth 100000
set_option maxHeartbeats 8000000
open Go.RowKit
def BkS (N:Nat)(CS:Array Value)(w:World):Prop:=Blk w N 43 CS
theorem tmod_in (n:Int)(m:Nat)(hm:0<m) : -(m:Int)<n.tmod (m:Int)∧n.tmod (m:Int)<(m:Int):=by
 have h1:(n.tmod (m:Int)).natAbs=n.natAbs%(m:Int).natAbs:=Int.natAbs_tmod n m;have h2:=Nat.mod_lt n.natAbs (show 0<(m:Int).natAbs by omega)
 omega
theorem within_any (w:World)(n:Int)(lo hi:Nat)(h1:lo≤hi)(h2:hi≤1000):
  Calls Tryz.prog 28 #[.int .i64 n,.int .i64 lo,.int .i64 hi] w fun e w'=>∃r:Nat,lo≤r∧r≤hi∧e=.returned (.int .i64 r)∧w'=w:=by
 obtain⟨m,hm⟩:∃m:Nat,hi-lo+1=m:=⟨_,rfl⟩;have e1:(hi:Int)-(lo:Int)+1=(m:Int):=by omega
 have hne:((hi:Int)-(lo:Int)+1)≠0:=by omega
 have ht:=tmod_in n m (by omega)
 rw[←e1] at ht;obtain⟨q,hq⟩:∃q,n.tmod ((hi:Int)-(lo:Int)+1)=q:=⟨_,rfl⟩;rw[hq] at ht;have b1:(lo:Int)≤(hi:Int):=by omega
 have b2:(hi:Int)≤1000:=by omega
 have b3:(0:Int)≤(lo:Int):=by omega
 have b4:(0:Int)≤(hi:Int):=by omega
 have b5:(lo:Int)≤1000:=by omega
 clear e1;by_cases h0:q<0
 ·have hR:∃r:Nat,lo≤r∧r≤hi∧((lo:Int)+(q+(hi:Int)-(lo:Int)+1))=(r:Int):=⟨((lo:Int)+(q+(hi:Int)-(lo:Int)+1)).toNat,by omega,by omega,by omega⟩
  obtain⟨r,r1,r2,r3⟩:=hR;have HR:=h_ r3;go_enter Tryz.func28,Tryz.ntmps28;go_wp2;go_ret;exact⟨r,r1,r2,by rw[←HR.o];first|rfl|simp,rfl⟩
 ·have hR:∃r:Nat,lo≤r∧r≤hi∧((lo:Int)+q)=(r:Int):=⟨((lo:Int)+q).toNat,by omega,by omega,by omega⟩
  obtain⟨r,r1,r2,r3⟩:=hR;have HR:=h_ r3;go_enter Tryz.func28,Tryz.ntmps28;go_wp2;go_ret;exact⟨r,r1,r2,by rw[←HR.o];first|rfl|simp,rfl⟩
theorem pick_any (ω w:World)(F:HP)(h:Sat ω w F)(m:Value)(x n:Int)(d:Nat)(k:Nat)(hk:k≤1000):
  Calls Tryz.prog 12 #[m,.agg #[.int .i64 x,.int .u8 d,.int .i64 n],.int .i64 k] w fun e w'=>∃r:Nat,r≤k∧e=.returned (.int .i64 r)∧Sat ω w' F:=by
 have HW:=h_ (fun w1=>within_any w1 n 0 k (Nat.zero_le _) hk)
 have H:=h_ h;go_enter Tryz.func12,Tryz.ntmps12;go_wp2_with (go_at_call 28;refine(HW.o _).mono ?_;rintro e w1 ⟨r,r1,r2,rfl,rfl⟩);go_ret;exact⟨r,r2,rfl,H.o.junk _⟩
theorem who_any (ω w:World)(F:HP)(b:Nat)(M:PMc)(h:Sat ω w (mcH b M*F))(hn1:1≤M.thr.length)(hn4:M.thr.length≤4)(x n:Int)(d:Nat):
  Calls Tryz.prog 14 #[.pointer (some ⟨b,0,none⟩),.agg #[.int .i64 x,.int .u8 d,.int .i64 n]] w fun e w'=>∃r:Nat,r<M.thr.length∧e=.returned (.int .i64 r)∧Sat ω w' (mcH b M*F):=by
 obtain⟨N,hN⟩:∃N,w.heap.size=N:=⟨_,rfl⟩;have HX:Hid (Sat ω (w.alloc (.cells #[.int .i64 x,.int .u8 d,.int .i64 n] 43)) (bk N 43 #[.int .i64 x,.int .u8 d,.int .i64 n]*(mcH b M*F))):=h_ (by rw[←hN];exact h.new _ _)
 have HD:=h_ (HX.o.drewN 1);have HT:Hid (∀w1,Sat ω w1 (bk N 43 #[.int .i64 x,.int .u8 d,.int .i64 n]*(mcH b M*F))→Calls Tryz.prog 31 #[.pointer (some ⟨b,0,none⟩)] w1 fun e w'=>e=.returned (.int .i64 M.thr.length)∧w1=w'):=h_ (fun w1 h1=>by
  refine(mc_threads ω w1 _ b M h1.right).mono ?_;rintro e w2 ⟨rfl,rfl⟩;exact⟨rfl,rfl⟩)
 obtain⟨q,hq⟩:∃q,M.thr.length=q:=⟨_,rfl⟩;rw[hq] at HT hn1 hn4 ⊢;have hmx:max (q:Int) 1=(q:Int):=by omega
 have hmx2:max (1:Int) (q:Int)=(q:Int):=by omega
 have HW:Hid (∀w1,Calls Tryz.prog 28 #[.int .i64 x,.int .i64 0,.int .i64 (IntKind.i64.wrap ((q:Int)-1))] w1 fun e w'=>∃r:Nat,r<q∧e=.returned (.int .i64 r)∧w1=w'):=h_ (fun w1=>by
  have e:IntKind.i64.wrap ((q:Int)-1)=((q-1:Nat):Int):=by rcases(by omega:q=1∨q=2∨q=3∨q=4) with rfl|rfl|rfl|rfl<;>decide +kernel
  rw[e];refine(within_any w1 x 0 (q-1) (Nat.zero_le _) (by omega)).mono ?_
  rintro e w2 ⟨r,r1,r2,rfl,rfl⟩;exact⟨r,by omega,rfl,rfl⟩)
 have HS0:BkS N #[.int .i64 x,.int .u8 d,.int .i64 n] (w.alloc (.cells #[.int .i64 x,.int .u8 d,.int .i64 n] 43)).drew:=HD.o.blk;go_enter Tryz.func14,Tryz.ntmps14;go_wp2;refine gN (BkS N #[.int .i64 x,.int .u8 d,.int .i64 n]) HS0 fun hh0=>?_
 refine tH 0 ?_ rfl ?_ (tH 1 ?_ rfl ?_ (tH 2 ?_ rfl ?_ ?_));all_goals (try (
  intro w hSw;have jl:=hSw.lt;have jf:=hSw.frozen;have j0:=hSw.c 0;try simp only[sP]
  go_simp<;>(try with_reducible rfl)))
 try simp only[sP]
 refine oH 3 rfl fun K hK=>?_
 go_simp;go_at_call 31;refine(HT.o _ HD.o).mono ?_;rintro e wA ⟨rfl,rfl⟩;(try go_wp2_with fail);refine hK.q ?_ fun hh1=>?_
 ·exact HS0
 try simp only[sP]
 refine tH 4 ?_ rfl ?_ (tH 5 ?_ rfl ?_ ?_);all_goals (try (
  intro w hSw;have jl:=hSw.lt;have jf:=hSw.frozen;have j0:=hSw.c 0;try simp only[sP]
  go_simp<;>(try with_reducible rfl)))
 try simp only[sP]
 refine oH 6 rfl fun K hK=>?_
 go_simp;go_at_call 28;refine(HW.o _).mono ?_;rintro e wB ⟨r,hr,rfl,rfl⟩;(try go_wp2_with fail);refine hK.q ?_ fun hh2=>?_
 ·exact HS0
 try simp only[sP]
 refine tH 7 ?_ rfl ?_ ?_;all_goals (try (
  intro w hSw;have jl:=hSw.lt;have jf:=hSw.frozen;have j0:=hSw.c 0;go_simp<;>(try with_reducible rfl)))
 try simp only[sP]
 refine dN ?_;go_wp2;go_ret;exact⟨r,hr,rfl,HD.o.right⟩
def ProgNew (ω:World)(F:HP)(p:List PIns)(e:Ending)(w':World):Prop:=∃g:Nat,e=.returned (.agg #[.slice (some ⟨g,0,none⟩) p.length p.length])∧Sat ω w' (prH (some ⟨g,0,none⟩) p.length p*F)
theorem prog_new {ω w:World}{F:HP}(h:Sat ω w F)(p:List PIns)(hp:p.length≤40)(o:Obj)(cs:Array Value)(hc:cs.toList=p.flatMap insV):Sat ω ((w.alloc o).alloc (.cells cs 87)) (prH (some ⟨w.heap.size+1,0,none⟩) p.length p*F):=by
 have h1:=(h.junk o).new cs 87;rw[World.size_alloc] at h1;have hsz:cs.size=p.length*5:=by rw[←Array.length_toList,hc,insV_flat]
 have h2:=h1.rowOf (n:=p.length) (size:=5) hsz (by unfold maxLen;omega)
 rw[hc] at h2;exact h2
theorem adds_at (ω w:World)(F:HP)(h:Sat ω w F)(a:Nat):Calls Tryz.prog 16 #[.int .i64 a] w (ProgNew ω F (addsP a)):=by
 have HN:=h_ (fun(o:Obj)=>prog_new h (addsP a) (by simp[addsP]) o #[.int .i64 8,.int .i64 0,.int .i64 7,.int .i64 a,.int .u64 0,.int .i64 1,.int .i64 1,.int .i64 0,.int .i64 0,.int .u64 1,.int .i64 3,.int .i64 0,.int .i64 0,.int .i64 1,.int .u64 0,.int .i64 9,.int .i64 7,.int .i64 0,.int .i64 a,.int .u64 0,.int .i64 21,.int .i64 0,.int .i64 0,.int .i64 0,.int .u64 0] rfl)
 clear h;go_enter Tryz.func16,Tryz.ntmps16;go_wp2;refine bodyPost_ret (v:=.agg #[.slice (some ⟨w.heap.size+1,0,none⟩) 5 5]) (by simp[results,Tryz.results16,go_sem]) rfl ⟨w.heap.size+1,rfl,HN.o _⟩
theorem adds_any (ω w:World)(F:HP)(h:Sat ω w F):Calls Tryz.prog 16 #[.int .i64 6] w (ProgNew ω F (addsP 6)):=adds_at ω w F h 6
theorem pick_s (M:PMc)(i d:Nat):(M.pick i d).s=M.s:=by
 unfold PMc.pick;split
 ·rfl
 ·simp only;split
  ·rfl
  ·split<;>rfl
theorem pick_picks (M:PMc)(i d:Nat):(M.pick i d).picks≤M.picks+1:=by
 unfold PMc.pick;split
 ·omega
 ·simp only;split
  ·exact Nat.le_refl _
  ·split<;>exact Nat.le_refl _
theorem pickN_fine (M:PMc)(h:McFine M)(hp:PastOk M):∀n,McFine (pickN n M)∧PastOk (pickN n M)∧(pickN n M).picks≤M.picks+n∧(pickN n M).s=M.s
 |0=>⟨h,hp,Nat.le_refl _,rfl⟩
 |n+1=>by
  obtain⟨h1,h2,h3,h4⟩:=pickN_fine M h hp n;refine⟨h1.pick 0 0,h2.pick h1 0 0,?_,?_⟩
  ·have:=pick_picks (pickN n M) 0 0
   show((pickN n M).pick 0 0).picks≤_
   omega
  ·show((pickN n M).pick 0 0).s=_
   rw[pick_s,h4]
theorem awake_fine:McFine awakeM∧PastOk awakeM:=by
 refine⟨McFine.new _ _ fun l hl p hp=>?_,PastOk.new _ _⟩
 simp only[List.mem_singleton] at hl;subst hl;simp only[List.mem_singleton] at hp;subst hp;exact adds_fine
theorem awake_facts:∃t r,(pickN 40 awakeM).mem.words.length=40∧(pickN 40 awakeM).mem.words.getD 6 0=1∧(pickN 40 awakeM).thr=[t]∧t.state=6∧t.attempts.length=1∧t.results=[r]∧r.slate=[49]:=by
 have h:=awake_plain;generalize pickN 40 awakeM=M at *
 unfold awakeB at h;simp only[Bool.and_eq_true,beq_iff_eq] at h;obtain⟨h1,h2,h3⟩:=h;split at h3
 ·rename_i t ht;simp only[Bool.and_eq_true,beq_iff_eq] at h3;obtain⟨h4,h5,h6⟩:=h3;split at h6
  ·rename_i r hr;exact⟨t,r,h1,h2,ht,h4,h5,hr,by simpa using h6⟩
  ·cases h6
 ·cases h3
theorem Sat.rowCellN {ω w:World}{F:HP}{e:TypeId}{s n c:Nat}{A:Option Addr}{xs:List Value}(h:Sat ω w (row e s (.slice A n c) n xs*F)){i:Nat}{v:Value}(hv:xs[i]?=some v):
  ∃g,A=some ⟨g,0,none⟩∧g<w.heap.size∧w.cell? ⟨g,i,none⟩=some v:=by
 rcases h.cases with⟨h1,h2,h3,_⟩|⟨g,cap,cur,h2,h3,h4,h5,h6,h7,h8⟩
 ·subst h3;simp at hv
 ·injection h2 with h2 _ _
  refine⟨g,h2,h8.blk.lt,?_⟩;have hi:i<n*s:=by
   have:=(List.getElem?_eq_some_iff.1 hv).1
   omega
  rw[h8.blk.cell,←hv,←h6,List.getElem?_take,if_pos hi];simp
theorem awake_any [Inhabited PowO](ω w:World)(F:HP)(h:Sat ω w (powH*F)):Calls Tryz.prog 8 #[] w fun e w'=>e=.returned (.bool true)∧Sat ω w' (powH*F):=by
 have HAD:=h_ (adds_any ω w (powH*F) h);have HNW:Hid (∀w1 (g:Nat),Sat ω w1 (prH (some ⟨g,0,none⟩) 5 (addsP 6)*(powH*F))→Calls Tryz.prog 10 #[.agg #[.int .i64 40,.int .i64 4,.int .i64 0,.int .i64 0,.int .u64 0,.int .i64 0,.int .i64 9,.int .i64 20],.slice (some ⟨w1.heap.size+1,0,none⟩) 1 1] ((w1.alloc (.cells #[.slice (some ⟨g,0,none⟩) 5 5] 32)).alloc (.cells #[.slice (some ⟨w1.heap.size,0,none⟩) 1 1] 29)) fun e w'=>∃b,e=.returned (.pointer (some ⟨b,0,none⟩))∧Sat ω w' (mcH b awakeM*(powH*F))):=h_ (fun w1 g h1=>by
  have h2:=(h1.new #[.slice (some ⟨g,0,none⟩) 5 5] 32);have h3:=h2.new #[.slice (some ⟨w1.heap.size,0,none⟩) 1 1] 29;rw[World.size_alloc] at h3;have h4:=(h3.swap.rowOf (n:=1) (size:=1) rfl (by unfold maxLen;omega)).swap
  have h5:=h4.rowOf (n:=1) (size:=1) rfl (by unfold maxLen;omega)
  generalize ((w1.alloc (.cells #[.slice (some ⟨g,0,none⟩) 5 5] 32)).alloc (.cells #[.slice (some ⟨w1.heap.size,0,none⟩) 1 1] 29))=W2 at h5 ⊢;have h6:Sat ω W2 (jjX (some ⟨w1.heap.size+1,0,none⟩) 1 [(some ⟨w1.heap.size,0,none⟩,1)] [[addsP 6]]*(powH*F)):=by
   unfold jjX;have h7:Sat ω W2 (fact (([(some ⟨g,0,none⟩,5)]:List (Option Addr×Nat)).length=[addsP 6].length)*_):=h5.to_fact rfl;have h8:Sat ω W2 (jobsH (some ⟨w1.heap.size,0,none⟩) 1 [addsP 6]*(row 29 1 (.slice (some ⟨w1.heap.size+1,0,none⟩) 1 1) 1 [.slice (some ⟨w1.heap.size,0,none⟩) 1 1]*(powH*F))):=by
    refine Sat.to_ex [(some ⟨g,0,none⟩,5)] ?_;refine h7.perm ?_;show fact _*(row 29 1 (.slice (some ⟨w1.heap.size+1,0,none⟩) 1 1) 1 [.slice (some ⟨w1.heap.size,0,none⟩) 1 1]*(row 32 1 (.slice (some ⟨w1.heap.size,0,none⟩) 1 1) 1 [.slice (some ⟨g,0,none⟩) 5 5]*(prH (some ⟨g,0,none⟩) 5 (addsP 6)*(powH*F))))=(fact _*(row 32 1 (.slice (some ⟨w1.heap.size,0,none⟩) 1 1) 1 [.slice (some ⟨g,0,none⟩) 5 5]*(prH (some ⟨g,0,none⟩) 5 (addsP 6)*emp)))*_
    rw[star_emp];ac_rfl
   refine h8.perm ?_;show _=(row 29 1 (.slice (some ⟨w1.heap.size+1,0,none⟩) 1 1) 1 [.slice (some ⟨w1.heap.size,0,none⟩) 1 1]*(jobsH (some ⟨w1.heap.size,0,none⟩) 1 [addsP 6]*emp))*_
   rw[star_emp];ac_rfl
  have h9:=mc_new ω W2 (powH*F) ⟨40,4,0,0,0,0,9,20⟩ (some ⟨w1.heap.size+1,0,none⟩) 1 1 [[addsP 6]] rfl (by omega) (by
   intro l hl;simp only[List.mem_singleton] at hl;subst hl;refine⟨by simp,fun p hp=>?_⟩
   simp only[List.mem_singleton] at hp;subst hp;exact⟨by simp[addsP],addsP_ok6⟩) [(some ⟨w1.heap.size,0,none⟩,1)] rfl h6
  refine h9.mono ?_;rintro e w2 ⟨b,rfl,h10⟩;exact⟨b,rfl,h10.swap.right⟩)
 have HPI:Hid (∀k b w1,k<40→Sat ω w1 (mcH b (pickN k awakeM)*(powH*F))→Calls Tryz.prog 13 #[.pointer (some ⟨b,0,none⟩),.int .i64 0,.int .u8 0] w1 fun e w'=>e=.returned (.int .i64 0)∧Sat ω w' (mcH b (pickN (k+1) awakeM)*(powH*F))):=h_ (fun k b w1 hk h1=>by
  obtain⟨f1,f2,f3,f4⟩:=pickN_fine awakeM awake_fine.1 awake_fine.2 k;have hthr:(pickN k awakeM).thr.length=1:=by rw[f1.len,f4];rfl
  have hpk:awakeM.picks=0:=rfl;refine(mc_pick ω w1 F b (pickN k awakeM) f1 (by omega) 0 0 (by omega) (by omega) h1).mono ?_
  rintro e w2 ⟨rfl,h2⟩;exact⟨rfl,h2⟩)
 have HFC:Hid (∀b w1,Sat ω w1 (mcH b (pickN 40 awakeM)*(powH*F))→Calls Tryz.prog 18 #[.pointer (some ⟨b,0,none⟩)] w1 fun e w2=>∃A c,e=.returned (.slice A 40 c)∧Hid (Calls Tryz.prog 19 #[.pointer (some ⟨b,0,none⟩),.int .i64 0] w2 fun e w3=>∃g g2 c2,e=.returned (.slice (some ⟨g2,0,none⟩) 1 c2)∧A=some ⟨g,0,none⟩∧g<w3.heap.size∧g2<w3.heap.size∧w3.cell? ⟨g,6,none⟩=some (.int .u64 1)∧w3.cell? ⟨g2,2,none⟩=some (.string ⟨#[49]⟩)∧Hid (Calls Tryz.prog 30 #[.pointer (some ⟨b,0,none⟩)] w3 fun e w4=>e=.returned (.bool true)∧w4=w3)∧Hid (Calls Tryz.prog 15 #[.pointer (some ⟨b,0,none⟩)] w3 fun e w4=>∃A c,e=.returned (.slice A 1 c)∧Sat ω w4 (powH*F)))):=h_ (fun b w1 h1=>by
  obtain⟨f1,f2,f3,f4⟩:=pickN_fine awakeM awake_fine.1 awake_fine.2 40;have hpk:awakeM.picks=0:=rfl;obtain⟨t,r,a1,a2,a3,a4,a5,a6,a7⟩:=awake_facts;generalize pickN 40 awakeM=M at *
  refine(mc_words ω w1 (powH*F) b M h1 f1).mono ?_;rintro e w2 ⟨A,c,rfl,h2⟩;refine⟨A,c,by rw[a1],h_ ?_⟩
  have h3:=h2.perm (by ac_rfl:_=mcH b M*(row 22 1 (.slice A M.mem.words.length c) M.mem.words.length (vU M.mem.words)*(powH*F)))
  refine(mc_results ω w2 _ b M h3 0 t (by rw[a3];rfl) (by rw[a6];simp)).mono ?_
  rintro e w3 ⟨A2,c2,rfl,h4⟩;have h5:=h4.perm (by ac_rfl:_=row 22 1 (.slice A M.mem.words.length c) M.mem.words.length (vU M.mem.words)*(row 66 4 (.slice A2 t.results.length c2) t.results.length (t.results.flatMap reV)*(mcH b M*(powH*F))))
  obtain⟨g,eA,hg,hc⟩:=h5.rowCell (i:=6) (v:=.int .u64 1) (by
   have h9:=@vU_at M.mem.words 6 (by omega)
   rw[a2] at h9;simpa using h9)
  obtain⟨g2,eA2,hg2,hc2⟩:=h4.rowCellN (i:=2) (v:=.string ⟨#[49]⟩) (by rw[a6];simp[reV,a7])
  subst eA2;have hat:M.attempts.length=1:=by unfold PMc.attempts;rw[a3];simpa using a5
  have hre:M.rests=true:=by unfold PMc.rests;rw[a3];simp[a4]
  refine⟨g,g2,c2,by rw[a6];rfl,eA,hg,hg2,hc,hc2,h_ ?_,h_ ?_⟩
  ·have h6:=mc_rests ω w3 _ b M (h4.perm (by ac_rfl:_=mcH b M*(row 66 4 (.slice (some ⟨g2,0,none⟩) t.results.length c2) t.results.length (t.results.flatMap reV)*(row 22 1 (.slice A M.mem.words.length c) M.mem.words.length (vU M.mem.words)*(powH*F))))) (by rw[a3];simp)
   rw[hre] at h6;exact h6
  ·refine(mc_attempts ω w3 (row 66 4 (.slice (some ⟨g2,0,none⟩) t.results.length c2) t.results.length (t.results.flatMap reV)*(row 22 1 (.slice A M.mem.words.length c) M.mem.words.length (vU M.mem.words)*F)) b M f1 f2 (by omega) (h4.perm (by ac_rfl))).mono ?_
   rintro e w4 ⟨A4,c4,rfl,qs,hq,h7⟩;refine⟨A4,c4,by rw[hat],?_⟩
   exact(h7.right.right.right.perm (by ac_rfl:_=row 66 4 (.slice (some ⟨g2,0,none⟩) t.results.length c2) t.results.length (t.results.flatMap reV)*(row 22 1 (.slice A M.mem.words.length c) M.mem.words.length (vU M.mem.words)*(powH*F)))).right.right)
 have HA0:Hid (∀b w1,Sat ω w1 (mcH b awakeM*(powH*F))→Sat ω w1 (mcH b (pickN 0 awakeM)*(powH*F))):=h_ (fun b w1 h1=>h1)
 clear h;go_enter Tryz.func8,Tryz.ntmps8;go_wp2_with (first
  |(go_at_call 16;refine(HAD.o).mono ?_;rintro e w1 ⟨g,rfl,h1⟩;have H1:=h_ (HNW.o w1 g h1);clear h1)
  |(go_at_call 10;refine(H1.o).mono ?_;rintro e w2 ⟨b,rfl,h2⟩;have H2:=h_ (HA0.o b w2 h2);clear h2))
 go_loopw [2] (fun c wr=>∃k:Nat,k≤40∧c=.int .i64 k∧Hid (Sat ω wr (mcH b (pickN k awakeM)*(powH*F)))) (fun c _=>40-(intOf c).toNat)
 case atStart=>exact⟨0,by omega,rfl,H2⟩
 case round =>
  obtain⟨k,hk,rfl,HK⟩:=hrel;by_cases hlt:k<40
  ·have HP:=h_ (HPI.o k b _ hlt HK.o);go_wp2_with (go_at_call 13;refine(HP.o).mono ?_;rintro e w3 ⟨rfl,h3⟩;have H3:=h_ h3;clear h3);exact⟨⟨k+1,by omega,by go_num,H3⟩,by simp[intOf];omega⟩
  ·obtain rfl:k=40:=by omega
   have HW:=h_ (HFC.o b _ HK.o);go_wp2_with (first
    |(go_at_call 18;refine(HW.o).mono ?_;rintro e w4 ⟨A,c,rfl,HR⟩)
    |(go_at_call 19;refine(HR.o).mono ?_;rintro e w5 ⟨g,g2,c2,rfl,rfl,kl,kl2,k6,k2,HS,HT⟩)
    |(go_at_call 30;refine(HS.o).mono ?_;rintro e w6 ⟨rfl,rfl⟩)
    |(go_at_call 15;refine(HT.o).mono ?_;rintro e w7 ⟨A7,c7,rfl,h7⟩;have H7:=h_ h7;clear h7))
   go_ret;exact⟨rfl,H7.o⟩
def SuS (N:Nat)(CS:Array Value)(w:World):Prop:=Blk w N 24 CS
theorem su7 {N:Nat}{c0 c1 c2 c3 c4 c5 c6:Value}{w:World}(h:SuS N #[c0,c1,c2,c3,c4,c5,c6] w):N<w.heap.size∧(∀k,w.frozen? ⟨N,k,none⟩=false)∧w.cell? ⟨N,0,none⟩=some c0∧w.cell? ⟨N,1,none⟩=some c1∧w.cell? ⟨N,2,none⟩=some c2∧w.cell? ⟨N,3,none⟩=some c3∧w.cell? ⟨N,4,none⟩=some c4∧w.cell? ⟨N,5,none⟩=some c5∧w.cell? ⟨N,6,none⟩=some c6:=⟨h.lt,h.frozen,h.cell 0,h.cell 1,h.cell 2,h.cell 3,h.cell 4,h.cell 5,h.cell 6⟩
theorem setup_in (ω w:World)(F:HP)(h:Sat ω w F)(a0 a1 a2 a3 a4 a5:Int)(a6:Nat):
  Calls Tryz.prog 11 #[.agg #[.int .i64 a0,.int .i64 a1,.int .i64 a2,.int .i64 a3,.int .i64 a4,.int .i64 a5,.int .u64 a6]] w fun e w'=>∃r:PSt,e=.returned (.agg #[.int .i64 r.words,.int .i64 r.stripes,.int .i64 r.wide,.int .i64 r.threads,.int .u64 r.start,.int .i64 r.spins,.int .i64 r.writes,.int .i64 r.fuel])∧Hid (1≤r.writes∧6≤r.fuel∧r.start≤1000)∧Sat ω w' F:=by
 obtain⟨N,hN⟩:∃N,w.heap.size=N:=⟨_,rfl⟩;have HX:Hid (∀o,Sat ω ((w.alloc (.cells #[.int .i64 a0,.int .i64 a1,.int .i64 a2,.int .i64 a3,.int .i64 a4,.int .i64 a5,.int .u64 a6] 24)).alloc o) (bk N 24 #[.int .i64 a0,.int .i64 a1,.int .i64 a2,.int .i64 a3,.int .i64 a4,.int .i64 a5,.int .u64 a6]*F)):=h_ (fun o=>by rw[←hN];exact(h.new _ _).junk o)
 have HW:Hid (∀(w1:World) (n:Int) (lo hi:Nat),lo≤hi→hi≤1000→Calls Tryz.prog 28 #[.int .i64 n,.int .i64 lo,.int .i64 hi] w1 fun e w'=>∃r:Nat,Hid (lo≤r)∧e=.returned (.int .i64 r)∧w1=w'):=h_ (fun w1 n lo hi b1 b2=>by
  refine(within_any w1 n lo hi b1 b2).mono ?_;rintro e w2 ⟨r,r1,r2,rfl,rfl⟩;exact⟨r,h_ r1,rfl,rfl⟩)
 have HG:Hid ((a6:Int).tmod 1000=((a6%1000:Nat):Int)):=h_ (Int.ofNat_tmod a6 1000).symm;go_enter Tryz.func11,Tryz.ntmps11;have HS0:SuS N #[.int .i64 a0,.int .i64 a1,.int .i64 a2,.int .i64 a3,.int .i64 a4,.int .i64 a5,.int .u64 a6] (((w.alloc (.cells #[.int .i64 a0,.int .i64 a1,.int .i64 a2,.int .i64 a3,.int .i64 a4,.int .i64 a5,.int .u64 a6] 24)).alloc (.cells #[.int .i64 0,.int .i64 0,.int .i64 0,.int .i64 0,.int .u64 0,.int .i64 0,.int .i64 0,.int .i64 0] 39)).drew):=(HX.o _).blk;go_wp2;refine gN (SuS N #[.int .i64 a0,.int .i64 a1,.int .i64 a2,.int .i64 a3,.int .i64 a4,.int .i64 a5,.int .u64 a6]) HS0 fun hh0=>?_
 refine tH 0 ?_ rfl ?_ (tH 3 ?_ rfl ?_ (tH 6 ?_ rfl ?_ (tH 1 ?_ rfl ?_ (tH 4 ?_ rfl ?_ (tH 7 ?_ rfl ?_ ?_)))));all_goals (try (
  intro w hSw;obtain⟨jl,jf,j0,j1,j2,j3,j4,j5,j6⟩:=su7 hSw;try simp only[sP]
  go_simp<;>(try with_reducible rfl)))
 try simp only[sP]
 refine rH [2,10] ?_;refine cH rfl (fun K hK=>?_) ?_
 ·go_simp;go_at_call 28;refine(HW.o _ _ 0 4 (by omega) (by omega)).mono ?_;rintro e wA ⟨x2,b2,rfl,rfl⟩
  try go_wp2_with fail
  refine hK.q ?_ fun hh1=>?_
  ·exact HS0
  try simp only[sP]
  refine rH [5,10] ?_;refine cH rfl (fun K hK=>?_) ?_
  ·go_simp;go_at_call 28;refine(HW.o _ _ 4 40 (by omega) (by omega)).mono ?_;rintro e wA ⟨x5,b5,rfl,rfl⟩
   try go_wp2_with fail
   refine hK.q ?_ fun hh2=>?_
   ·exact HS0
   try simp only[sP]
   refine rH [8,10] ?_;refine cH rfl (fun K hK=>?_) ?_
   ·go_simp;go_at_call 28;refine(HW.o _ _ 20 120 (by omega) (by omega)).mono ?_;rintro e wA ⟨x8,b8,rfl,rfl⟩
    try go_wp2_with fail
    refine hK.q ?_ fun hh3=>?_
    ·exact HS0
    try simp only[sP]
    refine tH 9 ?_ rfl ?_ ?_;all_goals (try (
     intro w hSw;obtain⟨jl,jf,j0,j1,j2,j3,j4,j5,j6⟩:=su7 hSw;go_simp<;>(try with_reducible rfl)))
    try simp only[sP]
    refine oH 10 rfl fun K hK=>?_
    go_simp;try go_wp2_with fail
    refine hK.q ?_ fun hh4=>?_
    ·exact HS0.alloc _
    try simp only[sP]
    refine oH 11 rfl fun K hK=>?_
    go_simp;try go_wp2_with fail
    refine hK.q ?_ fun hh5=>?_
    ·exact Blk.drew (Blk.alloc (HX.o _).blk _)
    try simp only[sP]
    refine dN ?_;go_wp2;refine wp_region_noPanic ?_;refine wp_region_held_drew (S:=SuS N #[.int .i64 a0,.int .i64 a1,.int .i64 a2,.int .i64 a3,.int .i64 a4,.int .i64 a5,.int .u64 a6]) (by kernel_rfl) (by exact Blk.alloc (HX.o _).blk _) (fun hh0=>?_)
    refine tH 0 ?_ rfl ?_ (tH 1 ?_ rfl ?_ (tH 3 ?_ rfl ?_ (tH 4 ?_ rfl ?_ (tH 6 ?_ rfl ?_ (tH 7 ?_ rfl ?_ (tH 9 ?_ rfl ?_ (tH 10 ?_ rfl ?_ (tH 11 ?_ rfl ?_ ?_))))))));all_goals (try (
     intro w hSw;obtain⟨jl,jf,j0,j1,j2,j3,j4,j5,j6⟩:=su7 hSw;try simp only[sP]
     go_simp<;>(try with_reducible rfl)))
    try simp only[sP]
    refine oH 2 rfl fun K hK=>?_
    go_simp;go_at_call 28;refine(HW.o _ _ 32 80 (by omega) (by omega)).mono ?_;rintro e wA ⟨y2,_,rfl,rfl⟩
    try go_wp2_with fail
    refine hK.q ?_ fun hh1=>?_
    ·exact Blk.alloc (HX.o _).blk _
    try simp only[sP]
    refine oH 5 rfl fun K hK=>?_
    go_simp;go_at_call 28;refine(HW.o _ _ 1 16 (by omega) (by omega)).mono ?_;rintro e wA ⟨y5,_,rfl,rfl⟩
    try go_wp2_with fail
    refine hK.q ?_ fun hh2=>?_
    ·exact Blk.alloc (HX.o _).blk _
    try simp only[sP]
    refine oH 8 rfl fun K hK=>?_
    go_simp;go_at_call 28;refine(HW.o _ _ 1 4 (by omega) (by omega)).mono ?_;rintro e wA ⟨y8,_,rfl,rfl⟩
    try go_wp2_with fail
    refine hK.q ?_ fun hh3=>?_
    ·exact Blk.alloc (HX.o _).blk _
    try simp only[sP]
    refine tH 12 ?_ rfl ?_ (tH 13 ?_ rfl ?_ ?_);all_goals (try (
     intro w hSw;obtain⟨jl,jf,j0,j1,j2,j3,j4,j5,j6⟩:=su7 hSw;try simp only[sP]
     go_simp<;>(try with_reducible rfl)))
    try simp only[sP]
    refine oH 14 rfl fun K hK=>?_
    go_simp;try go_wp2_with fail
    refine hK.q ?_ fun hh4=>?_
    ·exact Blk.alloc (HX.o _).blk _
    try simp only[sP]
    refine dN ?_;go_wp2;have hg:=HG.o;try rw[hg]
    try simp only[hg]
    subst hN;refine bodyPost_ret (v:=.agg #[.int .i64 y2,.int .i64 y5,.int .i64 y8,.int .i64 0,.int .u64 ((a6%1000:Nat):Int),.int .i64 x2,.int .i64 x5,.int .i64 x8]) (by simp[results,Tryz.results11,go_sem]) rfl ⟨{ words:=y2,stripes:=y5,wide:=y8,threads:=0,start:=a6%1000,spins:=x2,writes:=x5,fuel:=x8 },rfl,h_ ⟨Nat.le_trans (by decide) b5.out,Nat.le_trans (by decide) b8.out,Nat.le_of_lt (Nat.lt_of_lt_of_le (Nat.mod_lt _ (by decide)) (by decide))⟩,?_⟩
    exact((HX.o _).right.junk _).drewN 2
   refine nH rfl fun K hK=>?_
   ·go_simp;try go_wp2_with fail
    refine hK.q ?_ fun hh3=>?_
    ·exact HS0.alloc _
    try simp only[sP]
    refine oH 8 rfl fun K hK=>?_
    go_simp;go_at_call 28;refine(HW.o _ _ 20 120 (by omega) (by omega)).mono ?_;rintro e wA ⟨x8,b8,rfl,rfl⟩
    try go_wp2_with fail
    refine hK.q ?_ fun hh4=>?_
    ·exact HS0.alloc _
    try simp only[sP]
    refine tH 9 ?_ rfl ?_ ?_;all_goals (try (
     intro w hSw;obtain⟨jl,jf,j0,j1,j2,j3,j4,j5,j6⟩:=su7 hSw;go_simp<;>(try with_reducible rfl)))
    try simp only[sP]
    refine oH 11 rfl fun K hK=>?_
    go_simp;try go_wp2_with fail
    refine hK.q ?_ fun hh5=>?_
    ·exact Blk.drew (Blk.alloc (HX.o _).blk _)
    try simp only[sP]
    refine dN ?_;go_wp2;refine wp_region_noPanic ?_;refine wp_region_held_drew (S:=SuS N #[.int .i64 a0,.int .i64 a1,.int .i64 a2,.int .i64 a3,.int .i64 a4,.int .i64 a5,.int .u64 a6]) (by kernel_rfl) (by exact Blk.alloc (HX.o _).blk _) (fun hh0=>?_)
    refine tH 0 ?_ rfl ?_ (tH 1 ?_ rfl ?_ (tH 3 ?_ rfl ?_ (tH 4 ?_ rfl ?_ (tH 6 ?_ rfl ?_ (tH 7 ?_ rfl ?_ (tH 9 ?_ rfl ?_ (tH 10 ?_ rfl ?_ (tH 11 ?_ rfl ?_ ?_))))))));all_goals (try (
     intro w hSw;obtain⟨jl,jf,j0,j1,j2,j3,j4,j5,j6⟩:=su7 hSw;try simp only[sP]
     go_simp<;>(try with_reducible rfl)))
    try simp only[sP]
    refine oH 2 rfl fun K hK=>?_
    go_simp;go_at_call 28;refine(HW.o _ _ 32 80 (by omega) (by omega)).mono ?_;rintro e wA ⟨y2,_,rfl,rfl⟩
    try go_wp2_with fail
    refine hK.q ?_ fun hh1=>?_
    ·exact Blk.alloc (HX.o _).blk _
    try simp only[sP]
    refine oH 5 rfl fun K hK=>?_
    go_simp;go_at_call 28;refine(HW.o _ _ 1 16 (by omega) (by omega)).mono ?_;rintro e wA ⟨y5,_,rfl,rfl⟩
    try go_wp2_with fail
    refine hK.q ?_ fun hh2=>?_
    ·exact Blk.alloc (HX.o _).blk _
    try simp only[sP]
    refine oH 8 rfl fun K hK=>?_
    go_simp;go_at_call 28;refine(HW.o _ _ 1 4 (by omega) (by omega)).mono ?_;rintro e wA ⟨y8,_,rfl,rfl⟩
    try go_wp2_with fail
    refine hK.q ?_ fun hh3=>?_
    ·exact Blk.alloc (HX.o _).blk _
    try simp only[sP]
    refine tH 12 ?_ rfl ?_ (tH 13 ?_ rfl ?_ ?_);all_goals (try (
     intro w hSw;obtain⟨jl,jf,j0,j1,j2,j3,j4,j5,j6⟩:=su7 hSw;try simp only[sP]
     go_simp<;>(try with_reducible rfl)))
    try simp only[sP]
    refine oH 14 rfl fun K hK=>?_
    go_simp;try go_wp2_with fail
    refine hK.q ?_ fun hh4=>?_
    ·exact Blk.alloc (HX.o _).blk _
    try simp only[sP]
    refine dN ?_;go_wp2;have hg:=HG.o;try rw[hg]
    try simp only[hg]
    subst hN;refine bodyPost_ret (v:=.agg #[.int .i64 y2,.int .i64 y5,.int .i64 y8,.int .i64 0,.int .u64 ((a6%1000:Nat):Int),.int .i64 x2,.int .i64 x5,.int .i64 x8]) (by simp[results,Tryz.results11,go_sem]) rfl ⟨{ words:=y2,stripes:=y5,wide:=y8,threads:=0,start:=a6%1000,spins:=x2,writes:=x5,fuel:=x8 },rfl,h_ ⟨Nat.le_trans (by decide) b5.out,Nat.le_trans (by decide) b8.out,Nat.le_of_lt (Nat.lt_of_lt_of_le (Nat.mod_lt _ (by decide)) (by decide))⟩,?_⟩
    exact((HX.o _).right.junk _).drewN 2
  refine nH rfl fun K hK=>?_
  ·go_simp;try go_wp2_with fail
   refine hK.q ?_ fun hh2=>?_
   ·exact HS0.alloc _
   try simp only[sP]
   refine oH 5 rfl fun K hK=>?_
   go_simp;go_at_call 28;refine(HW.o _ _ 4 40 (by omega) (by omega)).mono ?_;rintro e wA ⟨x5,b5,rfl,rfl⟩
   try go_wp2_with fail
   refine hK.q ?_ fun hh3=>?_
   ·exact HS0.alloc _
   try simp only[sP]
   refine oH 8 rfl fun K hK=>?_
   go_simp;go_at_call 28;refine(HW.o _ _ 20 120 (by omega) (by omega)).mono ?_;rintro e wA ⟨x8,b8,rfl,rfl⟩
   try go_wp2_with fail
   refine hK.q ?_ fun hh4=>?_
   ·exact HS0.alloc _
   try simp only[sP]
   refine tH 9 ?_ rfl ?_ ?_;all_goals (try (
    intro w hSw;obtain⟨jl,jf,j0,j1,j2,j3,j4,j5,j6⟩:=su7 hSw;go_simp<;>(try with_reducible rfl)))
   try simp only[sP]
   refine oH 11 rfl fun K hK=>?_
   go_simp;try go_wp2_with fail
   refine hK.q ?_ fun hh5=>?_
   ·exact Blk.drew (Blk.alloc (HX.o _).blk _)
   try simp only[sP]
   refine dN ?_;go_wp2;refine wp_region_noPanic ?_;refine wp_region_held_drew (S:=SuS N #[.int .i64 a0,.int .i64 a1,.int .i64 a2,.int .i64 a3,.int .i64 a4,.int .i64 a5,.int .u64 a6]) (by kernel_rfl) (by exact Blk.alloc (HX.o _).blk _) (fun hh0=>?_)
   refine tH 0 ?_ rfl ?_ (tH 1 ?_ rfl ?_ (tH 3 ?_ rfl ?_ (tH 4 ?_ rfl ?_ (tH 6 ?_ rfl ?_ (tH 7 ?_ rfl ?_ (tH 9 ?_ rfl ?_ (tH 10 ?_ rfl ?_ (tH 11 ?_ rfl ?_ ?_))))))));all_goals (try (
    intro w hSw;obtain⟨jl,jf,j0,j1,j2,j3,j4,j5,j6⟩:=su7 hSw;try simp only[sP]
    go_simp<;>(try with_reducible rfl)))
   try simp only[sP]
   refine oH 2 rfl fun K hK=>?_
   go_simp;go_at_call 28;refine(HW.o _ _ 32 80 (by omega) (by omega)).mono ?_;rintro e wA ⟨y2,_,rfl,rfl⟩
   try go_wp2_with fail
   refine hK.q ?_ fun hh1=>?_
   ·exact Blk.alloc (HX.o _).blk _
   try simp only[sP]
   refine oH 5 rfl fun K hK=>?_
   go_simp;go_at_call 28;refine(HW.o _ _ 1 16 (by omega) (by omega)).mono ?_;rintro e wA ⟨y5,_,rfl,rfl⟩
   try go_wp2_with fail
   refine hK.q ?_ fun hh2=>?_
   ·exact Blk.alloc (HX.o _).blk _
   try simp only[sP]
   refine oH 8 rfl fun K hK=>?_
   go_simp;go_at_call 28;refine(HW.o _ _ 1 4 (by omega) (by omega)).mono ?_;rintro e wA ⟨y8,_,rfl,rfl⟩
   try go_wp2_with fail
   refine hK.q ?_ fun hh3=>?_
   ·exact Blk.alloc (HX.o _).blk _
   try simp only[sP]
   refine tH 12 ?_ rfl ?_ (tH 13 ?_ rfl ?_ ?_);all_goals (try (
    intro w hSw;obtain⟨jl,jf,j0,j1,j2,j3,j4,j5,j6⟩:=su7 hSw;try simp only[sP]
    go_simp<;>(try with_reducible rfl)))
   try simp only[sP]
   refine oH 14 rfl fun K hK=>?_
   go_simp;try go_wp2_with fail
   refine hK.q ?_ fun hh4=>?_
   ·exact Blk.alloc (HX.o _).blk _
   try simp only[sP]
   refine dN ?_;go_wp2;have hg:=HG.o;try rw[hg]
   try simp only[hg]
   subst hN;refine bodyPost_ret (v:=.agg #[.int .i64 y2,.int .i64 y5,.int .i64 y8,.int .i64 0,.int .u64 ((a6%1000:Nat):Int),.int .i64 x2,.int .i64 x5,.int .i64 x8]) (by simp[results,Tryz.results11,go_sem]) rfl ⟨{ words:=y2,stripes:=y5,wide:=y8,threads:=0,start:=a6%1000,spins:=x2,writes:=x5,fuel:=x8 },rfl,h_ ⟨Nat.le_trans (by decide) b5.out,Nat.le_trans (by decide) b8.out,Nat.le_of_lt (Nat.lt_of_lt_of_le (Nat.mod_lt _ (by decide)) (by decide))⟩,?_⟩
   exact((HX.o _).right.junk _).drewN 2
 refine nH rfl fun K hK=>?_
 ·go_simp;try go_wp2_with fail
  refine hK.q ?_ fun hh1=>?_
  ·exact HS0.alloc _
  try simp only[sP]
  refine oH 2 rfl fun K hK=>?_
  go_simp;go_at_call 28;refine(HW.o _ _ 0 4 (by omega) (by omega)).mono ?_;rintro e wA ⟨x2,b2,rfl,rfl⟩
  try go_wp2_with fail
  refine hK.q ?_ fun hh2=>?_
  ·exact HS0.alloc _
  try simp only[sP]
  refine oH 5 rfl fun K hK=>?_
  go_simp;go_at_call 28;refine(HW.o _ _ 4 40 (by omega) (by omega)).mono ?_;rintro e wA ⟨x5,b5,rfl,rfl⟩
  try go_wp2_with fail
  refine hK.q ?_ fun hh3=>?_
  ·exact HS0.alloc _
  try simp only[sP]
  refine oH 8 rfl fun K hK=>?_
  go_simp;go_at_call 28;refine(HW.o _ _ 20 120 (by omega) (by omega)).mono ?_;rintro e wA ⟨x8,b8,rfl,rfl⟩
  try go_wp2_with fail
  refine hK.q ?_ fun hh4=>?_
  ·exact HS0.alloc _
  try simp only[sP]
  refine tH 9 ?_ rfl ?_ ?_;all_goals (try (
   intro w hSw;obtain⟨jl,jf,j0,j1,j2,j3,j4,j5,j6⟩:=su7 hSw;go_simp<;>(try with_reducible rfl)))
  try simp only[sP]
  refine oH 11 rfl fun K hK=>?_
  go_simp;try go_wp2_with fail
  refine hK.q ?_ fun hh5=>?_
  ·exact Blk.drew (Blk.alloc (HX.o _).blk _)
  try simp only[sP]
  refine dN ?_;go_wp2;refine wp_region_noPanic ?_;refine wp_region_held_drew (S:=SuS N #[.int .i64 a0,.int .i64 a1,.int .i64 a2,.int .i64 a3,.int .i64 a4,.int .i64 a5,.int .u64 a6]) (by kernel_rfl) (by exact Blk.alloc (HX.o _).blk _) (fun hh0=>?_)
  refine tH 0 ?_ rfl ?_ (tH 1 ?_ rfl ?_ (tH 3 ?_ rfl ?_ (tH 4 ?_ rfl ?_ (tH 6 ?_ rfl ?_ (tH 7 ?_ rfl ?_ (tH 9 ?_ rfl ?_ (tH 10 ?_ rfl ?_ (tH 11 ?_ rfl ?_ ?_))))))));all_goals (try (
   intro w hSw;obtain⟨jl,jf,j0,j1,j2,j3,j4,j5,j6⟩:=su7 hSw;try simp only[sP]
   go_simp<;>(try with_reducible rfl)))
  try simp only[sP]
  refine oH 2 rfl fun K hK=>?_
  go_simp;go_at_call 28;refine(HW.o _ _ 32 80 (by omega) (by omega)).mono ?_;rintro e wA ⟨y2,_,rfl,rfl⟩
  try go_wp2_with fail
  refine hK.q ?_ fun hh1=>?_
  ·exact Blk.alloc (HX.o _).blk _
  try simp only[sP]
  refine oH 5 rfl fun K hK=>?_
  go_simp;go_at_call 28;refine(HW.o _ _ 1 16 (by omega) (by omega)).mono ?_;rintro e wA ⟨y5,_,rfl,rfl⟩
  try go_wp2_with fail
  refine hK.q ?_ fun hh2=>?_
  ·exact Blk.alloc (HX.o _).blk _
  try simp only[sP]
  refine oH 8 rfl fun K hK=>?_
  go_simp;go_at_call 28;refine(HW.o _ _ 1 4 (by omega) (by omega)).mono ?_;rintro e wA ⟨y8,_,rfl,rfl⟩
  try go_wp2_with fail
  refine hK.q ?_ fun hh3=>?_
  ·exact Blk.alloc (HX.o _).blk _
  try simp only[sP]
  refine tH 12 ?_ rfl ?_ (tH 13 ?_ rfl ?_ ?_);all_goals (try (
   intro w hSw;obtain⟨jl,jf,j0,j1,j2,j3,j4,j5,j6⟩:=su7 hSw;try simp only[sP]
   go_simp<;>(try with_reducible rfl)))
  try simp only[sP]
  refine oH 14 rfl fun K hK=>?_
  go_simp;try go_wp2_with fail
  refine hK.q ?_ fun hh4=>?_
  ·exact Blk.alloc (HX.o _).blk _
  try simp only[sP]
  refine dN ?_;go_wp2;have hg:=HG.o;try rw[hg]
  try simp only[hg]
  subst hN;refine bodyPost_ret (v:=.agg #[.int .i64 y2,.int .i64 y5,.int .i64 y8,.int .i64 0,.int .u64 ((a6%1000:Nat):Int),.int .i64 x2,.int .i64 x5,.int .i64 x8]) (by simp[results,Tryz.results11,go_sem]) rfl ⟨{ words:=y2,stripes:=y5,wide:=y8,threads:=0,start:=a6%1000,spins:=x2,writes:=x5,fuel:=x8 },rfl,h_ ⟨Nat.le_trans (by decide) b5.out,Nat.le_trans (by decide) b8.out,Nat.le_of_lt (Nat.lt_of_lt_of_le (Nat.mod_lt _ (by decide)) (by decide))⟩,?_⟩
  exact((HX.o _).right.junk _).drewN 2
end Go.Proofs.YtfodmgaliclhfaaGreatDoor
