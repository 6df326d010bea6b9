/- Lemmas for TopPairs; no conditions. -/
import Derived.Test.YtfodmgaliclhfaaGreatDoorGMmNew
namespace Go.Proofs.YtfodmgaliclhfaaGreatDoor
set_option linter.unusedVariables false
set_option linter.unusedSimpArgs false
set_option maxRecDepth 100000
set_option maxHeartbeats 8000000
open Go.RowKit
def shOf (s:PSt):MSh:=⟨s.words,s.stripes,s.wide,s.threads,s.start⟩
def mem0 (s:PSt):PMm:=⟨List.replicate s.words 0,List.replicate s.stripes PLk.zero,s.start,List.replicate s.threads 0,0⟩
def ShpS (N:Nat)(CS:Array Value)(w:World):Prop:=Blk w N 37 CS
theorem mem_new (ω w:World)(F:HP)(s:PSt)(hs:s.kept)(h:Sat ω w F):
  Calls Tryz.prog 33 #[.agg #[.int .i64 s.words,.int .i64 s.stripes,.int .i64 s.wide,.int .i64 s.threads,.int .u64 s.start]] w fun e w'=>∃mb,e=.returned (.pointer (some ⟨mb,0,none⟩))∧Sat ω w' (memH (shOf s) mb (mem0 s)*F):=by
 have g1:=hs.w1;have g2:=hs.w2;have g3:=hs.s1;have g4:=hs.s2;have g5:=hs.d1;have g6:=hs.d2;have g7:=hs.t1;have g8:=hs.t2;have g9:=hs.st;obtain⟨N,hN⟩:∃N,w.heap.size=N:=⟨_,rfl⟩;have HB0:Hid (Sat ω (w.alloc (.cells #[.int .i64 s.words,.int .i64 s.stripes,.int .i64 s.wide,.int .i64 s.threads,.int .u64 s.start] 37)) (bk N 37 #[.int .i64 s.words,.int .i64 s.stripes,.int .i64 s.wide,.int .i64 s.threads,.int .u64 s.start]*F)):=h_ (by rw[←hN];exact h.new _ _)
 have HHE:Hid (Calls Tryz.prog 50 #[.agg #[.int .i64 s.words,.int .i64 s.stripes,.int .i64 s.wide,.int .i64 s.threads,.int .u64 s.start]] (w.alloc (.cells #[.int .i64 s.words,.int .i64 s.stripes,.int .i64 s.wide,.int .i64 s.threads,.int .u64 s.start] 37)) fun e w'=>e=.returned (.agg #[.int .i64 s.words,.int .i64 s.stripes,.int .i64 s.wide,.int .i64 s.threads,.int .u64 s.start])∧Sat ω w' (bk N 37 #[.int .i64 s.words,.int .i64 s.stripes,.int .i64 s.wide,.int .i64 s.threads,.int .u64 s.start]*F)):=h_ (by
  refine(mem_held _ (s.words:Int) (s.stripes:Int) (s.wide:Int) (s.threads:Int) (s.start:Int) (s.words:Int) (s.stripes:Int) (s.wide:Int) (s.threads:Int) (s.start:Int) (by omega) (by omega) (by omega) (by omega) (by omega)).mono ?_
  rintro e w2 ⟨rfl,ho⟩;exact⟨rfl,HB0.o.nob ho⟩)
 have HB2:Hid (∀w1,Sat ω w1 (bk N 37 #[.int .i64 s.words,.int .i64 s.stripes,.int .i64 s.wide,.int .i64 s.threads,.int .u64 s.start]*F)→Sat ω (((((w1.setCell ⟨N,0,none⟩ (.int .i64 s.words)).setCell ⟨N,1,none⟩ (.int .i64 s.stripes)).setCell ⟨N,2,none⟩ (.int .i64 s.wide)).setCell ⟨N,3,none⟩ (.int .i64 s.threads)).setCell ⟨N,4,none⟩ (.int .u64 s.start)) (bk N 37 #[.int .i64 s.words,.int .i64 s.stripes,.int .i64 s.wide,.int .i64 s.threads,.int .u64 s.start]*F)):=h_ (fun w1 h1=>(((((h1.put 0 (.int .i64 s.words) (cs':=#[.int .i64 s.words,.int .i64 s.stripes,.int .i64 s.wide,.int .i64 s.threads,.int .u64 s.start]) rfl).put 1 (.int .i64 s.stripes) (cs':=#[.int .i64 s.words,.int .i64 s.stripes,.int .i64 s.wide,.int .i64 s.threads,.int .u64 s.start]) rfl).put 2 (.int .i64 s.wide) (cs':=#[.int .i64 s.words,.int .i64 s.stripes,.int .i64 s.wide,.int .i64 s.threads,.int .u64 s.start]) rfl).put 3 (.int .i64 s.threads) (cs':=#[.int .i64 s.words,.int .i64 s.stripes,.int .i64 s.wide,.int .i64 s.threads,.int .u64 s.start]) rfl).put 4 (.int .u64 s.start) (cs':=#[.int .i64 s.words,.int .i64 s.stripes,.int .i64 s.wide,.int .i64 s.threads,.int .u64 s.start]) rfl))
 have HBK:Hid (∀w1,Sat ω w1 (bk N 37 #[.int .i64 s.words,.int .i64 s.stripes,.int .i64 s.wide,.int .i64 s.threads,.int .u64 s.start]*F)→Blk w1 N 37 #[.int .i64 s.words,.int .i64 s.stripes,.int .i64 s.wide,.int .i64 s.threads,.int .u64 s.start]):=h_ (fun w1 h1=>h1.blk)
 have HH:Hid (∀w1 G,Sat ω w1 (bk N 37 #[.int .i64 s.words,.int .i64 s.stripes,.int .i64 s.wide,.int .i64 s.threads,.int .u64 s.start]*G)→Calls Tryz.prog 51 #[.int .i64 s.words] w1 fun e w'=>∃g,e=.returned (.pointer (some ⟨g,0,none⟩))∧Sat ω w' (bk N 37 #[.int .i64 s.words,.int .i64 s.stripes,.int .i64 s.wide,.int .i64 s.threads,.int .u64 s.start]*(heapH g (List.replicate s.words 0)*G))∧ShpS N #[.int .i64 s.words,.int .i64 s.stripes,.int .i64 s.wide,.int .i64 s.threads,.int .u64 s.start] w'):=h_ (fun w1 G h1=>by
  refine(heap_new ω w1 _ h1 s.words g1 g2).mono ?_;rintro e w2 ⟨g,rfl,h2⟩;exact⟨g,rfl,h2.swap,h2.swap.blk⟩)
 have HT:Hid (∀w1 G,Sat ω w1 (bk N 37 #[.int .i64 s.words,.int .i64 s.stripes,.int .i64 s.wide,.int .i64 s.threads,.int .u64 s.start]*G)→Calls Tryz.prog 52 #[.int .i64 s.stripes,.int .i64 s.wide] w1 fun e w'=>∃g,e=.returned (.pointer (some ⟨g,0,none⟩))∧Sat ω w' (bk N 37 #[.int .i64 s.words,.int .i64 s.stripes,.int .i64 s.wide,.int .i64 s.threads,.int .u64 s.start]*(tabH g (List.replicate s.stripes PLk.zero) s.wide*G))∧ShpS N #[.int .i64 s.words,.int .i64 s.stripes,.int .i64 s.wide,.int .i64 s.threads,.int .u64 s.start] w'):=h_ (fun w1 G h1=>by
  refine(tab_new ω w1 _ h1 s.stripes s.wide g3 g4 g5 g6).mono ?_;rintro e w2 ⟨g,rfl,h2⟩;exact⟨g,rfl,h2.swap,h2.swap.blk⟩)
 have HC:Hid (∀w1 G,Sat ω w1 (bk N 37 #[.int .i64 s.words,.int .i64 s.stripes,.int .i64 s.wide,.int .i64 s.threads,.int .u64 s.start]*G)→Calls Tryz.prog 53 #[.int .u64 s.start] w1 fun e w'=>∃g,e=.returned (.pointer (some ⟨g,0,none⟩))∧Sat ω w' (bk N 37 #[.int .i64 s.words,.int .i64 s.stripes,.int .i64 s.wide,.int .i64 s.threads,.int .u64 s.start]*(clkH g s.start*G))∧ShpS N #[.int .i64 s.words,.int .i64 s.stripes,.int .i64 s.wide,.int .i64 s.threads,.int .u64 s.start] w'):=h_ (fun w1 G h1=>by
  refine(clk_new ω w1 _ h1 s.start g9).mono ?_;rintro e w2 ⟨g,rfl,h2⟩;exact⟨g,rfl,h2.swap,h2.swap.blk⟩)
 have HE:Hid (∀w1 G,Sat ω w1 (bk N 37 #[.int .i64 s.words,.int .i64 s.stripes,.int .i64 s.wide,.int .i64 s.threads,.int .u64 s.start]*G)→Calls Tryz.prog 54 #[.int .i64 s.threads] w1 fun e w'=>∃g,e=.returned (.pointer (some ⟨g,0,none⟩))∧Sat ω w' (bk N 37 #[.int .i64 s.words,.int .i64 s.stripes,.int .i64 s.wide,.int .i64 s.threads,.int .u64 s.start]*(epH g (List.replicate s.threads 0)*G))∧ShpS N #[.int .i64 s.words,.int .i64 s.stripes,.int .i64 s.wide,.int .i64 s.threads,.int .u64 s.start] w'):=h_ (fun w1 G h1=>by
  refine(ep_new ω w1 _ h1 s.threads g7 g8).mono ?_;rintro e w2 ⟨g,rfl,h2⟩;exact⟨g,rfl,h2.swap,h2.swap.blk⟩)
 have HFI:Hid (∀w1 a1 a2 a3 a4,Sat ω w1 (bk N 37 #[.int .i64 s.words,.int .i64 s.stripes,.int .i64 s.wide,.int .i64 s.threads,.int .u64 s.start]*(epH a4 (List.replicate s.threads 0)*(clkH a3 s.start*(tabH a2 (List.replicate s.stripes PLk.zero) s.wide*(heapH a1 (List.replicate s.words 0)*F)))))→Sat ω (w1.alloc (.cells #[.int .i64 s.words,.int .i64 s.stripes,.int .i64 s.wide,.int .i64 s.threads,.int .u64 s.start,.pointer (some ⟨a1,0,none⟩),.pointer (some ⟨a2,0,none⟩),.pointer (some ⟨a3,0,none⟩),.pointer (some ⟨a4,0,none⟩),.int .i64 0] 130)) (memH (shOf s) w1.heap.size (mem0 s)*F)):=h_ (fun w1 a1 a2 a3 a4 h1=>by
  have h2:=h1.right.new #[.int .i64 s.words,.int .i64 s.stripes,.int .i64 s.wide,.int .i64 s.threads,.int .u64 s.start,.pointer (some ⟨a1,0,none⟩),.pointer (some ⟨a2,0,none⟩),.pointer (some ⟨a3,0,none⟩),.pointer (some ⟨a4,0,none⟩),.int .i64 0] 130;refine Sat.to_ex (⟨a1,a2,a3,a4⟩:MemA) ?_;refine h2.perm ?_;unfold memHA;show _=(bk w1.heap.size 130 _*(heapH a1 (List.replicate s.words 0)*(tabH a2 (List.replicate s.stripes PLk.zero) s.wide*(clkH a3 s.start*epH a4 (List.replicate s.threads 0)))))*F
  have e:memCells (shOf s) (⟨a1,a2,a3,a4⟩:MemA) (mem0 s).count=#[.int .i64 s.words,.int .i64 s.stripes,.int .i64 s.wide,.int .i64 s.threads,.int .u64 s.start,.pointer (some ⟨a1,0,none⟩),.pointer (some ⟨a2,0,none⟩),.pointer (some ⟨a3,0,none⟩),.pointer (some ⟨a4,0,none⟩),.int .i64 0]:=rfl;rw[e];ac_rfl)
 clear h g1 g2 g3 g4 g5 g6 g7 g8 g9 hs;go_enter Tryz.func33,Tryz.ntmps33;go_wp2_with (go_at_call 50;refine(HHE.o).mono ?_;rintro e w1 ⟨rfl,hs⟩;have kN:=HBK.o _ hs;have nf:=kN.frozen;have nl:=kN.lt;have n0:=kN.c 0;have n1:=kN.c 1;have n2:=kN.c 2;have n3:=kN.c 3;have n4:=kN.c 4;have HH2:=h_ (HB2.o _ hs);clear hs kN);generalize (((((w1.setCell ⟨N,0,none⟩ (.int .i64 s.words)).setCell ⟨N,1,none⟩ (.int .i64 s.stripes)).setCell ⟨N,2,none⟩ (.int .i64 s.wide)).setCell ⟨N,3,none⟩ (.int .i64 s.threads)).setCell ⟨N,4,none⟩ (.int .u64 s.start))=wC at *
 have HD:=h_ (HH2.o.drewN 1);have HS0:ShpS N #[.int .i64 s.words,.int .i64 s.stripes,.int .i64 s.wide,.int .i64 s.threads,.int .u64 s.start] wC.drew:=HBK.o _ HD.o;clear n0 n1 n2 n3 n4 nf nl HB2 HHE HB0;refine wp_region_noPanic ?_;refine gH (ShpS N #[.int .i64 s.words,.int .i64 s.stripes,.int .i64 s.wide,.int .i64 s.threads,.int .u64 s.start]) HS0 fun hh0=>?_
 refine tH 0 ?_ rfl ?_ (tH 1 ?_ rfl ?_ (tH 2 ?_ rfl ?_ (tH 4 ?_ rfl ?_ (tH 5 ?_ rfl ?_ (tH 6 ?_ rfl ?_ (tH 7 ?_ rfl ?_ (tH 9 ?_ rfl ?_ (tH 10 ?_ rfl ?_ (tH 12 ?_ rfl ?_ (tH 13 ?_ rfl ?_ ?_))))))))));all_goals (try (
  intro w hSw;have jl:=hSw.lt;have jf:=hSw.frozen;have j0:=hSw.c 0;have j1:=hSw.c 1;have j2:=hSw.c 2;have j3:=hSw.c 3;have j4:=hSw.c 4;try simp only[Act.put,sA,sB,sC]
  go_simp<;>(try with_reducible rfl)))
 try simp only[Act.put,sA,sB,sC]
 refine oH 3 rfl fun K hK=>?_
 go_simp;go_at_call 51;refine(HH.o _ _ HD.o).mono ?_;rintro e w_K1 ⟨a1,rfl,hs,hz⟩;have K1:=h_ hs;have ZK1:=h_ hz;clear hs hz;first|(refine hK.q ?_ fun hh1=>?_)|(go_wp2_with fail;refine hK.q ?_ fun hh1=>?_)
 ·exact ZK1.out
 clear hK K hh0;try simp only[Act.put,sA,sB,sC]
 refine oH 8 rfl fun K hK=>?_
 go_simp;go_at_call 52;refine(HT.o _ _ K1.out).mono ?_;rintro e w_K2 ⟨a2,rfl,hs,hz⟩;have K2:=h_ hs;have ZK2:=h_ hz;clear hs hz;first|(refine hK.q ?_ fun hh2=>?_)|(go_wp2_with fail;refine hK.q ?_ fun hh2=>?_)
 ·exact ZK2.out
 clear hK K hh1;try simp only[Act.put,sA,sB,sC]
 refine oH 11 rfl fun K hK=>?_
 go_simp;go_at_call 53;refine(HC.o _ _ K2.out).mono ?_;rintro e w_K3 ⟨a3,rfl,hs,hz⟩;have K3:=h_ hs;have ZK3:=h_ hz;clear hs hz;first|(refine hK.q ?_ fun hh3=>?_)|(go_wp2_with fail;refine hK.q ?_ fun hh3=>?_)
 ·exact ZK3.out
 clear hK K hh2;try simp only[Act.put,sA,sB,sC]
 refine oH 14 rfl fun K hK=>?_
 go_simp;go_at_call 54;refine(HE.o _ _ K3.out).mono ?_;rintro e w_K4 ⟨a4,rfl,hs,hz⟩;have K4:=h_ hs;have ZK4:=h_ hz;clear hs hz;first|(refine hK.q ?_ fun hh4=>?_)|(go_wp2_with fail;refine hK.q ?_ fun hh4=>?_)
 ·exact ZK4.out
 clear hK K hh3;try simp only[Act.put,sA,sB,sC]
 refine tH 15 ?_ rfl ?_ ?_;all_goals (try (
  intro w hSw;have jl:=hSw.lt;have jf:=hSw.frozen;have j0:=hSw.c 0;have j1:=hSw.c 1;have j2:=hSw.c 2;have j3:=hSw.c 3;have j4:=hSw.c 4;go_simp<;>(try with_reducible rfl)))
 try simp only[Act.put,sA,sB,sC]
 refine oH 16 rfl fun K hK=>?_
 go_simp;first|(refine hK.q ?_ fun hh5=>?_)|(go_wp2_with fail;refine hK.q ?_ fun hh5=>?_)
 ·exact(ZK4.out:Blk _ _ _ _).alloc _
 clear hK K hh4;try simp only[Act.put,sA,sB,sC]
 refine tH 17 ?_ rfl ?_ ?_;all_goals (try (
  intro w hSw;have jl:=hSw.lt;have jf:=hSw.frozen;have j0:=hSw.c 0;have j1:=hSw.c 1;have j2:=hSw.c 2;have j3:=hSw.c 3;have j4:=hSw.c 4;go_simp<;>(try with_reducible rfl)))
 try simp only[Act.put,sA,sB,sC]
 refine dH (NoPanic.normal ?_);have HZ:=h_ (HFI.o _ _ _ _ _ K4.out);go_wp2;go_ret;exact⟨_,rfl,HZ.o⟩
def thAll (s:PSt):List Nat→List PTh→HP
 |b::bs,t::ts=>thH b s t*thAll s bs ts
 |_,_=>emp
theorem thAll_at (s:PSt):∀(bs:List Nat) (ts:List PTh),bs.length=ts.length→∀i t,ts[i]?=some t→∃b R,bs[i]?=some b∧thAll s bs ts=thH b s t*R∧∀t',thAll s bs (ts.set i t')=thH b s t'*R
 | [],[],_,i,t,hi=>by simp at hi
 |b::bs,t::ts,h,0,t0,hi=>by
  simp at hi;subst hi;exact⟨b,thAll s bs ts,rfl,rfl,fun t'=>rfl⟩
 |b::bs,t::ts,h,i+1,t0,hi=>by
  obtain⟨c,R,h1,h2,h3⟩:=thAll_at s bs ts (by simpa using h) i t0 (by simpa using hi)
  refine⟨c,thH b s t*R,by simpa using h1,?_,fun t'=>?_⟩
  ·show thH b s t*thAll s bs ts=_
   rw[h2];ac_rfl
  ·show thH b s t*thAll s bs (ts.set i t')=_
   rw[h3];ac_rfl
theorem thAll_snoc (s:PSt)(b:Nat)(t:PTh):∀(bs:List Nat) (ts:List PTh),bs.length=ts.length→thAll s (bs++[b]) (ts++[t])=thAll s bs ts*thH b s t
 | [],[],_=>by
  show thH b s t*emp=emp*thH b s t
  exact star_comm _ _
 |c::bs,u::ts,h=>by
  show thH c s u*thAll s (bs++[b]) (ts++[t])=_
  rw[thAll_snoc s b t bs ts (by simpa using h)]
  show _=(thH c s u*thAll s bs ts)*_
  ac_rfl
structure McD where
 mb:Nat
 tA:Option Addr
 tc:Nat
 bs:List Nat
def mcC (M:PMc)(D:McD):Array Value:=#[.int .i64 M.s.words,.int .i64 M.s.stripes,.int .i64 M.s.wide,.int .i64 M.s.threads,.int .u64 M.s.start,.int .i64 M.s.spins,.int .i64 M.s.writes,.int .i64 M.s.fuel,pV D.mb,.slice D.tA M.thr.length D.tc,.int .i64 M.picks,.int .i64 M.last.kind,.int .i64 M.last.at_,.int .u64 M.last.old,.int .u64 M.last.word,.int .u64 M.last.was.ver,.bool M.last.was.held,.int .i64 M.last.was.own,.int .u64 M.last.lock.ver,.bool M.last.lock.held,.int .i64 M.last.lock.own,.bool M.did]
def mcX (b:Nat)(M:PMc)(D:McD):HP:=bk b 97 (mcC M D)*(memH (shOf M.s) D.mb M.mem*(fact (D.bs.length=M.thr.length)*(row 102 1 (.slice D.tA M.thr.length D.tc) M.thr.length (D.bs.map pV)*thAll M.s D.bs M.thr)))
def mcH (b:Nat)(M:PMc):HP:=ex fun D=>mcX b M D
theorem mcH_of {ω w:World}{F:HP}{b:Nat}{M:PMc}(h:Sat ω w (mcH b M*F)):∃D,Sat ω w (mcX b M D*F):=h.of_ex
theorem mcH_to {ω w:World}{F:HP}{b:Nat}{M:PMc}{D:McD}(h:Sat ω w (mcX b M D*F)):Sat ω w (mcH b M*F):=Sat.to_ex D h
def mcRow (M:PMc)(D:McD):HP:=row 102 1 (.slice D.tA M.thr.length D.tc) M.thr.length (D.bs.map pV)
theorem mcX_open {ω w:World}{F:HP}{b:Nat}{M:PMc}{D:McD}(h:Sat ω w (mcX b M D*F)):D.bs.length=M.thr.length∧Sat ω w (bk b 97 (mcC M D)*(memH (shOf M.s) D.mb M.mem*(mcRow M D*(thAll M.s D.bs M.thr*F)))):=by
 unfold mcX at h;have h1:Sat ω w (fact (D.bs.length=M.thr.length)*(bk b 97 (mcC M D)*(memH (shOf M.s) D.mb M.mem*(mcRow M D*(thAll M.s D.bs M.thr*F))))):=h.perm (by unfold mcRow;ac_rfl)
 exact h1.of_fact
theorem mcX_close {ω w:World}{F:HP}{b:Nat}{M:PMc}{D:McD}(hl:D.bs.length=M.thr.length)(h:Sat ω w (bk b 97 (mcC M D)*(memH (shOf M.s) D.mb M.mem*(mcRow M D*(thAll M.s D.bs M.thr*F))))):Sat ω w (mcH b M*F):=by
 refine mcH_to (D:=D) ?_;unfold mcX;exact(h.to_fact hl).perm (by unfold mcRow;ac_rfl)
theorem mcRow_at {ω w:World}{F P:HP}{M:PMc}{D:McD}(h:Sat ω w (P*(mcRow M D*F))){i tb:Nat}(hb:D.bs[i]?=some tb):∃g,D.tA=some ⟨g,0,none⟩∧g<w.heap.size∧w.cell? ⟨g,i,none⟩=some (pV tb):=by
 have h1:=h.right;unfold mcRow at h1;exact h1.rowCell (by rw[List.getElem?_map,hb];rfl)
theorem held_kept_ (s:PSt):s.held.kept:=by
 refine⟨?_,?_,?_,?_,?_,?_,?_,?_,?_,?_,?_,?_⟩<;>(simp only[PSt.held];omega)
theorem McFine.kept {M:PMc}(h:McFine M):M.s.kept:=by
 obtain⟨s0,e⟩:=h.set;rw[e];exact held_kept_ s0
theorem ThBase.fit {K:Nat}{t:PTh}(h:ThBase K t):t.fit:=⟨h.job,h.jobs,fun q hq=>⟨(h.prog q hq).code.elim fun _ hc=>hc.len,(h.prog q hq).ok⟩⟩
def MchS (b:Nat)(CS:Array Value)(w:World):Prop:=Blk w b 97 CS
theorem mc_putLast {ω w1:World}{G:HP}{b:Nat}{M:PMc}{D:McD}(kind at_ old word wv wo lv lo:Nat)(wh lh ok:Bool)(h1:Sat ω w1 (bk b 97 (mcC M D)*G)):
  Sat ω (((((((((((w1.setCell ⟨b,11,none⟩ (.int .i64 kind)).setCell ⟨b,12,none⟩ (.int .i64 at_)).setCell ⟨b,13,none⟩ (.int .u64 old)).setCell ⟨b,14,none⟩ (.int .u64 word)).setCell ⟨b,15,none⟩ (.int .u64 wv)).setCell ⟨b,16,none⟩ (.bool wh)).setCell ⟨b,17,none⟩ (.int .i64 wo)).setCell ⟨b,18,none⟩ (.int .u64 lv)).setCell ⟨b,19,none⟩ (.bool lh)).setCell ⟨b,20,none⟩ (.int .i64 lo)).setCell ⟨b,21,none⟩ (.bool ok)) (bk b 97 (mcC { M with last:=⟨kind,at_,old,word,⟨wv,wh,wo⟩,⟨lv,lh,lo⟩⟩,did:=ok } D)*G):=by
 obtain⟨s,mem,thr,picks,last,did⟩:=M;exact(((((((((((h1.put 11 (.int .i64 kind) (cs':=mcC ⟨s,mem,thr,picks,⟨kind,last.at_,last.old,last.word,⟨last.was.ver,last.was.held,last.was.own⟩,⟨last.lock.ver,last.lock.held,last.lock.own⟩⟩,did⟩ D) rfl).put 12 (.int .i64 at_) (cs':=mcC ⟨s,mem,thr,picks,⟨kind,at_,last.old,last.word,⟨last.was.ver,last.was.held,last.was.own⟩,⟨last.lock.ver,last.lock.held,last.lock.own⟩⟩,did⟩ D) rfl).put 13 (.int .u64 old) (cs':=mcC ⟨s,mem,thr,picks,⟨kind,at_,old,last.word,⟨last.was.ver,last.was.held,last.was.own⟩,⟨last.lock.ver,last.lock.held,last.lock.own⟩⟩,did⟩ D) rfl).put 14 (.int .u64 word) (cs':=mcC ⟨s,mem,thr,picks,⟨kind,at_,old,word,⟨last.was.ver,last.was.held,last.was.own⟩,⟨last.lock.ver,last.lock.held,last.lock.own⟩⟩,did⟩ D) rfl).put 15 (.int .u64 wv) (cs':=mcC ⟨s,mem,thr,picks,⟨kind,at_,old,word,⟨wv,last.was.held,last.was.own⟩,⟨last.lock.ver,last.lock.held,last.lock.own⟩⟩,did⟩ D) rfl).put 16 (.bool wh) (cs':=mcC ⟨s,mem,thr,picks,⟨kind,at_,old,word,⟨wv,wh,last.was.own⟩,⟨last.lock.ver,last.lock.held,last.lock.own⟩⟩,did⟩ D) rfl).put 17 (.int .i64 wo) (cs':=mcC ⟨s,mem,thr,picks,⟨kind,at_,old,word,⟨wv,wh,wo⟩,⟨last.lock.ver,last.lock.held,last.lock.own⟩⟩,did⟩ D) rfl).put 18 (.int .u64 lv) (cs':=mcC ⟨s,mem,thr,picks,⟨kind,at_,old,word,⟨wv,wh,wo⟩,⟨lv,last.lock.held,last.lock.own⟩⟩,did⟩ D) rfl).put 19 (.bool lh) (cs':=mcC ⟨s,mem,thr,picks,⟨kind,at_,old,word,⟨wv,wh,wo⟩,⟨lv,lh,last.lock.own⟩⟩,did⟩ D) rfl).put 20 (.int .i64 lo) (cs':=mcC ⟨s,mem,thr,picks,⟨kind,at_,old,word,⟨wv,wh,wo⟩,⟨lv,lh,lo⟩⟩,did⟩ D) rfl).put 21 (.bool ok) (cs':=mcC ⟨s,mem,thr,picks,⟨kind,at_,old,word,⟨wv,wh,wo⟩,⟨lv,lh,lo⟩⟩,ok⟩ D) rfl)
def wakeTo (s:PSt)(i st ve k:Nat)(l:List PTh):List PTh:=l.mapIdx fun j o=>if j<k then(if j=i then o else o.wake s st ve) else o
theorem wakeTo_zero (s:PSt)(i st ve:Nat)(l:List PTh):wakeTo s i st ve 0 l=l:=by
 unfold wakeTo;apply List.ext_getElem?;intro j;rw[List.getElem?_mapIdx];cases l[j]?<;>simp
theorem wakeTo_len (s:PSt)(i st ve k:Nat)(l:List PTh):(wakeTo s i st ve k l).length=l.length:=by simp[wakeTo]
theorem wakeTo_at (s:PSt)(i st ve k:Nat)(l:List PTh):(wakeTo s i st ve k l)[k]?=l[k]?:=by
 unfold wakeTo;rw[List.getElem?_mapIdx];cases l[k]?<;>simp
theorem wakeTo_succ (s:PSt)(i st ve k:Nat)(l:List PTh)(o:PTh)(ho:l[k]?=some o):wakeTo s i st ve (k+1) l=(wakeTo s i st ve k l).set k (if k=i then o else o.wake s st ve):=by
 have hk:k<l.length:=(List.getElem?_eq_some_iff.1 ho).1;apply List.ext_getElem?;intro j;rw[List.getElem?_set];by_cases e:k=j
 ·subst e;rw[if_pos rfl,if_pos (by rw[wakeTo_len];exact hk)]
  unfold wakeTo;rw[List.getElem?_mapIdx,ho];simp
 ·rw[if_neg e];unfold wakeTo;rw[List.getElem?_mapIdx,List.getElem?_mapIdx];cases l[j]? with
  |none=>rfl
  |some p =>
   simp only[Option.map_some];by_cases h2:j<k
   ·rw[if_pos (by omega),if_pos h2]
   ·rw[if_neg (by omega),if_neg h2]
theorem wakeTo_all (s:PSt)(i st ve:Nat)(l:List PTh):wakeTo s i st ve l.length l=l.mapIdx fun j o=>if j=i then o else o.wake s st ve:=by
 unfold wakeTo;apply List.ext_getElem?;intro j;rw[List.getElem?_mapIdx,List.getElem?_mapIdx];cases h:l[j]? with
 |none=>rfl
 |some p =>
  have hj:j<l.length:=(List.getElem?_eq_some_iff.1 h).1;simp only[Option.map_some];rw[if_pos hj]
end Go.Proofs.YtfodmgaliclhfaaGreatDoor
