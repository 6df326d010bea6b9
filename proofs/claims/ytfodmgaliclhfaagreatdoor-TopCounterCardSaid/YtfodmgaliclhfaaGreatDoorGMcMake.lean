/- Lemmas; no conditions. -/
import Derived.Test.YtfodmgaliclhfaaGreatDoorGMmNew
namespace Go.Proofs.YtfodmgaliclhfaaGreatDoor
set_option linter.unusedVariables false
set_option linter.unusedSimpArgs false
set_option maxRecDepth 100000
set_option maxHeartbeats 16000000
open Go.RowKit
def shOf (s:PSt):MSh:=⟨s.words,s.stripes,s.wide,s.threads,s.start⟩
def mem0 (s:PSt):PMm:=⟨List.replicate s.words 0,List.replicate s.stripes PLk.zero,s.start,List.replicate s.threads 0,0⟩
def ShpS (N:Nat)(CS:Array Value)(w:World):Prop:=Blk w N 37 CS
theorem mem_new (ω w:World)(F:HP)(s:PSt)(hs:s.kept)(h:Sat ω w F):
  Calls Tryz.prog 33 #[.agg #[.int .i64 s.words,.int .i64 s.stripes,.int .i64 s.wide,.int .i64 s.threads,.int .u64 s.start]] w fun e w'=>∃mb,e=.returned (.pointer (some ⟨mb,0,none⟩))∧Sat ω w' (memH (shOf s) mb (mem0 s)*F):=by
 have g1:=hs.w1;have g2:=hs.w2;have g3:=hs.s1;have g4:=hs.s2;have g5:=hs.d1;have g6:=hs.d2;have g7:=hs.t1;have g8:=hs.t2;have g9:=hs.st;obtain⟨N,hN⟩:∃N,w.heap.size=N:=⟨_,rfl⟩;have HB0:Hid (Sat ω (w.alloc (.cells #[.int .i64 s.words,.int .i64 s.stripes,.int .i64 s.wide,.int .i64 s.threads,.int .u64 s.start] 37)) (bk N 37 #[.int .i64 s.words,.int .i64 s.stripes,.int .i64 s.wide,.int .i64 s.threads,.int .u64 s.start]*F)):=h_ (by rw[←hN];exact h.new _ _)
 have HHE:Hid (Calls Tryz.prog 50 #[.agg #[.int .i64 s.words,.int .i64 s.stripes,.int .i64 s.wide,.int .i64 s.threads,.int .u64 s.start]] (w.alloc (.cells #[.int .i64 s.words,.int .i64 s.stripes,.int .i64 s.wide,.int .i64 s.threads,.int .u64 s.start] 37)) fun e w'=>e=.returned (.agg #[.int .i64 s.words,.int .i64 s.stripes,.int .i64 s.wide,.int .i64 s.threads,.int .u64 s.start])∧Sat ω w' (bk N 37 #[.int .i64 s.words,.int .i64 s.stripes,.int .i64 s.wide,.int .i64 s.threads,.int .u64 s.start]*F)):=h_ (by
  refine(mem_held _ (s.words:Int) (s.stripes:Int) (s.wide:Int) (s.threads:Int) (s.start:Int) (s.words:Int) (s.stripes:Int) (s.wide:Int) (s.threads:Int) (s.start:Int) (by omega) (by omega) (by omega) (by omega) (by omega)).mono ?_
  rintro e w2 ⟨rfl,ho⟩;exact⟨rfl,HB0.o.nob ho⟩)
 have HB2:Hid (∀w1,Sat ω w1 (bk N 37 #[.int .i64 s.words,.int .i64 s.stripes,.int .i64 s.wide,.int .i64 s.threads,.int .u64 s.start]*F)→Sat ω (((((w1.setCell ⟨N,0,none⟩ (.int .i64 s.words)).setCell ⟨N,1,none⟩ (.int .i64 s.stripes)).setCell ⟨N,2,none⟩ (.int .i64 s.wide)).setCell ⟨N,3,none⟩ (.int .i64 s.threads)).setCell ⟨N,4,none⟩ (.int .u64 s.start)) (bk N 37 #[.int .i64 s.words,.int .i64 s.stripes,.int .i64 s.wide,.int .i64 s.threads,.int .u64 s.start]*F)):=h_ (fun w1 h1=>(((((h1.put 0 (.int .i64 s.words) (cs':=#[.int .i64 s.words,.int .i64 s.stripes,.int .i64 s.wide,.int .i64 s.threads,.int .u64 s.start]) rfl).put 1 (.int .i64 s.stripes) (cs':=#[.int .i64 s.words,.int .i64 s.stripes,.int .i64 s.wide,.int .i64 s.threads,.int .u64 s.start]) rfl).put 2 (.int .i64 s.wide) (cs':=#[.int .i64 s.words,.int .i64 s.stripes,.int .i64 s.wide,.int .i64 s.threads,.int .u64 s.start]) rfl).put 3 (.int .i64 s.threads) (cs':=#[.int .i64 s.words,.int .i64 s.stripes,.int .i64 s.wide,.int .i64 s.threads,.int .u64 s.start]) rfl).put 4 (.int .u64 s.start) (cs':=#[.int .i64 s.words,.int .i64 s.stripes,.int .i64 s.wide,.int .i64 s.threads,.int .u64 s.start]) rfl))
 have HBK:Hid (∀w1,Sat ω w1 (bk N 37 #[.int .i64 s.words,.int .i64 s.stripes,.int .i64 s.wide,.int .i64 s.threads,.int .u64 s.start]*F)→Blk w1 N 37 #[.int .i64 s.words,.int .i64 s.stripes,.int .i64 s.wide,.int .i64 s.threads,.int .u64 s.start]):=h_ (fun w1 h1=>h1.blk)
 have HH:Hid (∀w1 G,Sat ω w1 (bk N 37 #[.int .i64 s.words,.int .i64 s.stripes,.int .i64 s.wide,.int .i64 s.threads,.int .u64 s.start]*G)→Calls Tryz.prog 51 #[.int .i64 s.words] w1 fun e w'=>∃g,e=.returned (.pointer (some ⟨g,0,none⟩))∧Sat ω w' (bk N 37 #[.int .i64 s.words,.int .i64 s.stripes,.int .i64 s.wide,.int .i64 s.threads,.int .u64 s.start]*(heapH g (List.replicate s.words 0)*G))∧ShpS N #[.int .i64 s.words,.int .i64 s.stripes,.int .i64 s.wide,.int .i64 s.threads,.int .u64 s.start] w'):=h_ (fun w1 G h1=>by
  refine(heap_new ω w1 _ h1 s.words g1 g2).mono ?_;rintro e w2 ⟨g,rfl,h2⟩;exact⟨g,rfl,h2.swap,h2.swap.blk⟩)
 have HT:Hid (∀w1 G,Sat ω w1 (bk N 37 #[.int .i64 s.words,.int .i64 s.stripes,.int .i64 s.wide,.int .i64 s.threads,.int .u64 s.start]*G)→Calls Tryz.prog 52 #[.int .i64 s.stripes,.int .i64 s.wide] w1 fun e w'=>∃g,e=.returned (.pointer (some ⟨g,0,none⟩))∧Sat ω w' (bk N 37 #[.int .i64 s.words,.int .i64 s.stripes,.int .i64 s.wide,.int .i64 s.threads,.int .u64 s.start]*(tabH g (List.replicate s.stripes PLk.zero) s.wide*G))∧ShpS N #[.int .i64 s.words,.int .i64 s.stripes,.int .i64 s.wide,.int .i64 s.threads,.int .u64 s.start] w'):=h_ (fun w1 G h1=>by
  refine(tab_new ω w1 _ h1 s.stripes s.wide g3 g4 g5 g6).mono ?_;rintro e w2 ⟨g,rfl,h2⟩;exact⟨g,rfl,h2.swap,h2.swap.blk⟩)
 have HC:Hid (∀w1 G,Sat ω w1 (bk N 37 #[.int .i64 s.words,.int .i64 s.stripes,.int .i64 s.wide,.int .i64 s.threads,.int .u64 s.start]*G)→Calls Tryz.prog 53 #[.int .u64 s.start] w1 fun e w'=>∃g,e=.returned (.pointer (some ⟨g,0,none⟩))∧Sat ω w' (bk N 37 #[.int .i64 s.words,.int .i64 s.stripes,.int .i64 s.wide,.int .i64 s.threads,.int .u64 s.start]*(clkH g s.start*G))∧ShpS N #[.int .i64 s.words,.int .i64 s.stripes,.int .i64 s.wide,.int .i64 s.threads,.int .u64 s.start] w'):=h_ (fun w1 G h1=>by
  refine(clk_new ω w1 _ h1 s.start g9).mono ?_;rintro e w2 ⟨g,rfl,h2⟩;exact⟨g,rfl,h2.swap,h2.swap.blk⟩)
 have HE:Hid (∀w1 G,Sat ω w1 (bk N 37 #[.int .i64 s.words,.int .i64 s.stripes,.int .i64 s.wide,.int .i64 s.threads,.int .u64 s.start]*G)→Calls Tryz.prog 54 #[.int .i64 s.threads] w1 fun e w'=>∃g,e=.returned (.pointer (some ⟨g,0,none⟩))∧Sat ω w' (bk N 37 #[.int .i64 s.words,.int .i64 s.stripes,.int .i64 s.wide,.int .i64 s.threads,.int .u64 s.start]*(epH g (List.replicate s.threads 0)*G))∧ShpS N #[.int .i64 s.words,.int .i64 s.stripes,.int .i64 s.wide,.int .i64 s.threads,.int .u64 s.start] w'):=h_ (fun w1 G h1=>by
  refine(ep_new ω w1 _ h1 s.threads g7 g8).mono ?_;rintro e w2 ⟨g,rfl,h2⟩;exact⟨g,rfl,h2.swap,h2.swap.blk⟩)
 have HFI:Hid (∀w1 a1 a2 a3 a4,Sat ω w1 (bk N 37 #[.int .i64 s.words,.int .i64 s.stripes,.int .i64 s.wide,.int .i64 s.threads,.int .u64 s.start]*(epH a4 (List.replicate s.threads 0)*(clkH a3 s.start*(tabH a2 (List.replicate s.stripes PLk.zero) s.wide*(heapH a1 (List.replicate s.words 0)*F)))))→Sat ω (w1.alloc (.cells #[.int .i64 s.words,.int .i64 s.stripes,.int .i64 s.wide,.int .i64 s.threads,.int .u64 s.start,.pointer (some ⟨a1,0,none⟩),.pointer (some ⟨a2,0,none⟩),.pointer (some ⟨a3,0,none⟩),.pointer (some ⟨a4,0,none⟩),.int .i64 0] 130)) (memH (shOf s) w1.heap.size (mem0 s)*F)):=h_ (fun w1 a1 a2 a3 a4 h1=>by
  have h2:=h1.right.new #[.int .i64 s.words,.int .i64 s.stripes,.int .i64 s.wide,.int .i64 s.threads,.int .u64 s.start,.pointer (some ⟨a1,0,none⟩),.pointer (some ⟨a2,0,none⟩),.pointer (some ⟨a3,0,none⟩),.pointer (some ⟨a4,0,none⟩),.int .i64 0] 130;refine Sat.to_ex (⟨a1,a2,a3,a4⟩:MemA) ?_;refine h2.perm ?_;unfold memHA;show _=(bk w1.heap.size 130 _*(heapH a1 (List.replicate s.words 0)*(tabH a2 (List.replicate s.stripes PLk.zero) s.wide*(clkH a3 s.start*epH a4 (List.replicate s.threads 0)))))*F
  have e:memCells (shOf s) (⟨a1,a2,a3,a4⟩:MemA) (mem0 s).count=#[.int .i64 s.words,.int .i64 s.stripes,.int .i64 s.wide,.int .i64 s.threads,.int .u64 s.start,.pointer (some ⟨a1,0,none⟩),.pointer (some ⟨a2,0,none⟩),.pointer (some ⟨a3,0,none⟩),.pointer (some ⟨a4,0,none⟩),.int .i64 0]:=rfl;rw[e];ac_rfl)
 go_enter Tryz.func33,Tryz.ntmps33;go_wp2_with (go_at_call 50;refine(HHE.o).mono ?_;rintro e w1 ⟨rfl,hs⟩;have kN:=HBK.o _ hs;have nf:=kN.frozen;have nl:=kN.lt;have n0:=kN.c 0;have n1:=kN.c 1;have n2:=kN.c 2;have n3:=kN.c 3;have n4:=kN.c 4;have HH2:=h_ (HB2.o _ hs));generalize (((((w1.setCell ⟨N,0,none⟩ (.int .i64 s.words)).setCell ⟨N,1,none⟩ (.int .i64 s.stripes)).setCell ⟨N,2,none⟩ (.int .i64 s.wide)).setCell ⟨N,3,none⟩ (.int .i64 s.threads)).setCell ⟨N,4,none⟩ (.int .u64 s.start))=wC at *
 have HD:=h_ (HH2.o.drewN 1);have HS0:ShpS N #[.int .i64 s.words,.int .i64 s.stripes,.int .i64 s.wide,.int .i64 s.threads,.int .u64 s.start] wC.drew:=HBK.o _ HD.o;refine gN (ShpS N #[.int .i64 s.words,.int .i64 s.stripes,.int .i64 s.wide,.int .i64 s.threads,.int .u64 s.start]) HS0 fun hh0=>?_
 refine tH 0 ?_ rfl ?_ (tH 1 ?_ rfl ?_ (tH 2 ?_ rfl ?_ (tH 4 ?_ rfl ?_ (tH 5 ?_ rfl ?_ (tH 6 ?_ rfl ?_ (tH 7 ?_ rfl ?_ (tH 9 ?_ rfl ?_ (tH 10 ?_ rfl ?_ (tH 12 ?_ rfl ?_ (tH 13 ?_ rfl ?_ ?_))))))))));all_goals (try (
  intro w hSw;have jl:=hSw.lt;have jf:=hSw.frozen;have j0:=hSw.c 0;have j1:=hSw.c 1;have j2:=hSw.c 2;have j3:=hSw.c 3;have j4:=hSw.c 4;try simp only[sP]
  go_simp<;>(try with_reducible rfl)))
 try simp only[sP]
 refine oH 3 rfl fun K hK=>?_
 go_simp;go_at_call 51;refine(HH.o _ _ HD.o).mono ?_;rintro e w_K1 ⟨a1,rfl,hs,hz⟩;have K1:=h_ hs;have ZK1:=h_ hz;(try go_wp2_with fail);refine hK.q ?_ fun hh1=>?_
 ·exact ZK1.out
 try simp only[sP]
 refine oH 8 rfl fun K hK=>?_
 go_simp;go_at_call 52;refine(HT.o _ _ K1.out).mono ?_;rintro e w_K2 ⟨a2,rfl,hs,hz⟩;have K2:=h_ hs;have ZK2:=h_ hz;(try go_wp2_with fail);refine hK.q ?_ fun hh2=>?_
 ·exact ZK2.out
 try simp only[sP]
 refine oH 11 rfl fun K hK=>?_
 go_simp;go_at_call 53;refine(HC.o _ _ K2.out).mono ?_;rintro e w_K3 ⟨a3,rfl,hs,hz⟩;have K3:=h_ hs;have ZK3:=h_ hz;(try go_wp2_with fail);refine hK.q ?_ fun hh3=>?_
 ·exact ZK3.out
 try simp only[sP]
 refine oH 14 rfl fun K hK=>?_
 go_simp;go_at_call 54;refine(HE.o _ _ K3.out).mono ?_;rintro e w_K4 ⟨a4,rfl,hs,hz⟩;have K4:=h_ hs;have ZK4:=h_ hz;(try go_wp2_with fail);refine hK.q ?_ fun hh4=>?_
 ·exact ZK4.out
 try simp only[sP]
 refine tH 15 ?_ rfl ?_ ?_;all_goals (try (
  intro w hSw;have jl:=hSw.lt;have jf:=hSw.frozen;have j0:=hSw.c 0;have j1:=hSw.c 1;have j2:=hSw.c 2;have j3:=hSw.c 3;have j4:=hSw.c 4;go_simp<;>(try with_reducible rfl)))
 try simp only[sP]
 refine oH 16 rfl fun K hK=>?_
 go_simp;(try go_wp2_with fail);refine hK.q ?_ fun hh5=>?_
 ·exact(ZK4.out:Blk _ _ _ _).alloc _
 try simp only[sP]
 refine tH 17 ?_ rfl ?_ ?_;all_goals (try (
  intro w hSw;have jl:=hSw.lt;have jf:=hSw.frozen;have j0:=hSw.c 0;have j1:=hSw.c 1;have j2:=hSw.c 2;have j3:=hSw.c 3;have j4:=hSw.c 4;go_simp<;>(try with_reducible rfl)))
 try simp only[sP]
 refine dN ?_;have HZ:=h_ (HFI.o _ _ _ _ _ K4.out);go_wp2;go_ret;exact⟨_,rfl,HZ.o⟩
def thAll (s:PSt):List Nat→List PTh→HP
 |b::bs,t::ts=>thH b s t*thAll s bs ts
 |_,_=>emp
theorem thAll_at (s:PSt):∀(bs:List Nat) (ts:List PTh),bs.length=ts.length→∀i t,ts[i]?=some t→∃b R,bs[i]?=some b∧thAll s bs ts=thH b s t*R∧∀t',thAll s bs (ts.set i t')=thH b s t'*R
 | [],[],_,i,t,hi=>by simp at hi
 |b::bs,t::ts,h,0,t0,hi=>by
  simp at hi;subst hi;exact⟨b,thAll s bs ts,rfl,rfl,fun t'=>rfl⟩
 |b::bs,t::ts,h,i+1,t0,hi=>by
  obtain⟨c,R,h1,h2,h3⟩:=thAll_at s bs ts (by simpa using h) i t0 (by simpa using hi)
  refine⟨c,thH b s t*R,by simpa using h1,?_,fun t'=>?_⟩
  ·show thH b s t*thAll s bs ts=_
   rw[h2];ac_rfl
  ·show thH b s t*thAll s bs (ts.set i t')=_
   rw[h3];ac_rfl
theorem thAll_snoc (s:PSt)(b:Nat)(t:PTh):∀(bs:List Nat) (ts:List PTh),bs.length=ts.length→thAll s (bs++[b]) (ts++[t])=thAll s bs ts*thH b s t
 | [],[],_=>by
  show thH b s t*emp=emp*thH b s t
  exact star_comm _ _
 |c::bs,u::ts,h=>by
  show thH c s u*thAll s (bs++[b]) (ts++[t])=_
  rw[thAll_snoc s b t bs ts (by simpa using h)]
  show _=(thH c s u*thAll s bs ts)*_
  ac_rfl
structure McD where
 mb:Nat
 tA:Option Addr
 tc:Nat
 bs:List Nat
def mcC (M:PMc)(D:McD):Array Value:=#[.int .i64 M.s.words,.int .i64 M.s.stripes,.int .i64 M.s.wide,.int .i64 M.s.threads,.int .u64 M.s.start,.int .i64 M.s.spins,.int .i64 M.s.writes,.int .i64 M.s.fuel,pV D.mb,.slice D.tA M.thr.length D.tc,.int .i64 M.picks,.int .i64 M.last.kind,.int .i64 M.last.at_,.int .u64 M.last.old,.int .u64 M.last.word,.int .u64 M.last.was.ver,.bool M.last.was.held,.int .i64 M.last.was.own,.int .u64 M.last.lock.ver,.bool M.last.lock.held,.int .i64 M.last.lock.own,.bool M.did]
def mcX (b:Nat)(M:PMc)(D:McD):HP:=bk b 97 (mcC M D)*(memH (shOf M.s) D.mb M.mem*(fact (D.bs.length=M.thr.length)*(row 102 1 (.slice D.tA M.thr.length D.tc) M.thr.length (D.bs.map pV)*thAll M.s D.bs M.thr)))
def mcH (b:Nat)(M:PMc):HP:=ex fun D=>mcX b M D
theorem mcH_of {ω w:World}{F:HP}{b:Nat}{M:PMc}(h:Sat ω w (mcH b M*F)):∃D,Sat ω w (mcX b M D*F):=h.of_ex
theorem mcH_to {ω w:World}{F:HP}{b:Nat}{M:PMc}{D:McD}(h:Sat ω w (mcX b M D*F)):Sat ω w (mcH b M*F):=Sat.to_ex D h
def mcRow (M:PMc)(D:McD):HP:=row 102 1 (.slice D.tA M.thr.length D.tc) M.thr.length (D.bs.map pV)
theorem mcX_open {ω w:World}{F:HP}{b:Nat}{M:PMc}{D:McD}(h:Sat ω w (mcX b M D*F)):D.bs.length=M.thr.length∧Sat ω w (bk b 97 (mcC M D)*(memH (shOf M.s) D.mb M.mem*(mcRow M D*(thAll M.s D.bs M.thr*F)))):=by
 unfold mcX at h;have h1:Sat ω w (fact (D.bs.length=M.thr.length)*(bk b 97 (mcC M D)*(memH (shOf M.s) D.mb M.mem*(mcRow M D*(thAll M.s D.bs M.thr*F))))):=h.perm (by unfold mcRow;ac_rfl)
 exact h1.of_fact
theorem mcX_close {ω w:World}{F:HP}{b:Nat}{M:PMc}{D:McD}(hl:D.bs.length=M.thr.length)(h:Sat ω w (bk b 97 (mcC M D)*(memH (shOf M.s) D.mb M.mem*(mcRow M D*(thAll M.s D.bs M.thr*F))))):Sat ω w (mcH b M*F):=by
 refine mcH_to (D:=D) ?_;unfold mcX;exact(h.to_fact hl).perm (by unfold mcRow;ac_rfl)
theorem mcRow_at {ω w:World}{F P:HP}{M:PMc}{D:McD}(h:Sat ω w (P*(mcRow M D*F))){i tb:Nat}(hb:D.bs[i]?=some tb):∃g,D.tA=some ⟨g,0,none⟩∧g<w.heap.size∧w.cell? ⟨g,i,none⟩=some (pV tb):=by
 have h1:=h.right;unfold mcRow at h1;exact h1.rowCell (by rw[List.getElem?_map,hb];rfl)
theorem held_kept_ (s:PSt):s.held.kept:=by
 refine⟨?_,?_,?_,?_,?_,?_,?_,?_,?_,?_,?_,?_⟩<;>(simp only[PSt.held];omega)
theorem McFine.kept {M:PMc}(h:McFine M):M.s.kept:=by
 obtain⟨s0,e⟩:=h.set;rw[e];exact held_kept_ s0
theorem ThBase.fit {K:Nat}{t:PTh}(h:ThBase K t):t.fit:=⟨h.job,h.jobs,fun q hq=>⟨(h.prog q hq).code.elim fun _ hc=>hc.len,(h.prog q hq).ok⟩⟩
def MchS (b:Nat)(CS:Array Value)(w:World):Prop:=Blk w b 97 CS
theorem mc_putLast {ω w1:World}{G:HP}{b:Nat}{M:PMc}{D:McD}(kind at_ old word wv wo lv lo:Nat)(wh lh ok:Bool)(h1:Sat ω w1 (bk b 97 (mcC M D)*G)):
  Sat ω (((((((((((w1.setCell ⟨b,11,none⟩ (.int .i64 kind)).setCell ⟨b,12,none⟩ (.int .i64 at_)).setCell ⟨b,13,none⟩ (.int .u64 old)).setCell ⟨b,14,none⟩ (.int .u64 word)).setCell ⟨b,15,none⟩ (.int .u64 wv)).setCell ⟨b,16,none⟩ (.bool wh)).setCell ⟨b,17,none⟩ (.int .i64 wo)).setCell ⟨b,18,none⟩ (.int .u64 lv)).setCell ⟨b,19,none⟩ (.bool lh)).setCell ⟨b,20,none⟩ (.int .i64 lo)).setCell ⟨b,21,none⟩ (.bool ok)) (bk b 97 (mcC { M with last:=⟨kind,at_,old,word,⟨wv,wh,wo⟩,⟨lv,lh,lo⟩⟩,did:=ok } D)*G):=by
 obtain⟨s,mem,thr,picks,last,did⟩:=M;exact(((((((((((h1.put 11 (.int .i64 kind) (cs':=mcC ⟨s,mem,thr,picks,⟨kind,last.at_,last.old,last.word,⟨last.was.ver,last.was.held,last.was.own⟩,⟨last.lock.ver,last.lock.held,last.lock.own⟩⟩,did⟩ D) rfl).put 12 (.int .i64 at_) (cs':=mcC ⟨s,mem,thr,picks,⟨kind,at_,last.old,last.word,⟨last.was.ver,last.was.held,last.was.own⟩,⟨last.lock.ver,last.lock.held,last.lock.own⟩⟩,did⟩ D) rfl).put 13 (.int .u64 old) (cs':=mcC ⟨s,mem,thr,picks,⟨kind,at_,old,last.word,⟨last.was.ver,last.was.held,last.was.own⟩,⟨last.lock.ver,last.lock.held,last.lock.own⟩⟩,did⟩ D) rfl).put 14 (.int .u64 word) (cs':=mcC ⟨s,mem,thr,picks,⟨kind,at_,old,word,⟨last.was.ver,last.was.held,last.was.own⟩,⟨last.lock.ver,last.lock.held,last.lock.own⟩⟩,did⟩ D) rfl).put 15 (.int .u64 wv) (cs':=mcC ⟨s,mem,thr,picks,⟨kind,at_,old,word,⟨wv,last.was.held,last.was.own⟩,⟨last.lock.ver,last.lock.held,last.lock.own⟩⟩,did⟩ D) rfl).put 16 (.bool wh) (cs':=mcC ⟨s,mem,thr,picks,⟨kind,at_,old,word,⟨wv,wh,last.was.own⟩,⟨last.lock.ver,last.lock.held,last.lock.own⟩⟩,did⟩ D) rfl).put 17 (.int .i64 wo) (cs':=mcC ⟨s,mem,thr,picks,⟨kind,at_,old,word,⟨wv,wh,wo⟩,⟨last.lock.ver,last.lock.held,last.lock.own⟩⟩,did⟩ D) rfl).put 18 (.int .u64 lv) (cs':=mcC ⟨s,mem,thr,picks,⟨kind,at_,old,word,⟨wv,wh,wo⟩,⟨lv,last.lock.held,last.lock.own⟩⟩,did⟩ D) rfl).put 19 (.bool lh) (cs':=mcC ⟨s,mem,thr,picks,⟨kind,at_,old,word,⟨wv,wh,wo⟩,⟨lv,lh,last.lock.own⟩⟩,did⟩ D) rfl).put 20 (.int .i64 lo) (cs':=mcC ⟨s,mem,thr,picks,⟨kind,at_,old,word,⟨wv,wh,wo⟩,⟨lv,lh,lo⟩⟩,did⟩ D) rfl).put 21 (.bool ok) (cs':=mcC ⟨s,mem,thr,picks,⟨kind,at_,old,word,⟨wv,wh,wo⟩,⟨lv,lh,lo⟩⟩,ok⟩ D) rfl)
def wakeTo (s:PSt)(i st ve k:Nat)(l:List PTh):List PTh:=l.mapIdx fun j o=>if j<k then(if j=i then o else o.wake s st ve) else o
theorem wakeTo_zero (s:PSt)(i st ve:Nat)(l:List PTh):wakeTo s i st ve 0 l=l:=by
 unfold wakeTo;apply List.ext_getElem?;intro j;rw[List.getElem?_mapIdx];cases l[j]?<;>simp
theorem wakeTo_len (s:PSt)(i st ve k:Nat)(l:List PTh):(wakeTo s i st ve k l).length=l.length:=by simp[wakeTo]
theorem wakeTo_at (s:PSt)(i st ve k:Nat)(l:List PTh):(wakeTo s i st ve k l)[k]?=l[k]?:=by
 unfold wakeTo;rw[List.getElem?_mapIdx];cases l[k]?<;>simp
theorem wakeTo_succ (s:PSt)(i st ve k:Nat)(l:List PTh)(o:PTh)(ho:l[k]?=some o):wakeTo s i st ve (k+1) l=(wakeTo s i st ve k l).set k (if k=i then o else o.wake s st ve):=by
 have hk:k<l.length:=(List.getElem?_eq_some_iff.1 ho).1;apply List.ext_getElem?;intro j;rw[List.getElem?_set];by_cases e:k=j
 ·subst e;rw[if_pos rfl,if_pos (by rw[wakeTo_len];exact hk)]
  unfold wakeTo;rw[List.getElem?_mapIdx,ho];simp
 ·rw[if_neg e];unfold wakeTo;rw[List.getElem?_mapIdx,List.getElem?_mapIdx];cases l[j]? with
  |none=>rfl
  |some p =>
   simp only[Option.map_some];by_cases h2:j<k
   ·rw[if_pos (by omega),if_pos h2]
   ·rw[if_neg (by omega),if_neg h2]
theorem wakeTo_all (s:PSt)(i st ve:Nat)(l:List PTh):wakeTo s i st ve l.length l=l.mapIdx fun j o=>if j=i then o else o.wake s st ve:=by
 unfold wakeTo;apply List.ext_getElem?;intro j;rw[List.getElem?_mapIdx,List.getElem?_mapIdx];cases h:l[j]? with
 |none=>rfl
 |some p =>
  have hj:j<l.length:=(List.getElem?_eq_some_iff.1 h).1;simp only[Option.map_some];rw[if_pos hj]
theorem mc_pick [Inhabited PowO](ω w:World)(F:HP)(b:Nat)(M:PMc)(hM:McFine M)(hK:M.picks≤100000)(i d:Nat)(hi:i<M.thr.length)(hd:d<256)(h:Sat ω w (mcH b M*(powH*F))):
  Calls Tryz.prog 13 #[.pointer (some ⟨b,0,none⟩),.int .i64 i,.int .u8 d] w (Rets ω (powH*F) (.int .i64 0) (mcH b (M.pick i d))):=by
 obtain⟨D,h⟩:=mcH_of h;obtain⟨hl,h1⟩:=mcX_open h;obtain⟨n,hn⟩:∃n,M.thr.length=n:=⟨_,rfl⟩;have hn4:n≤4:=by
  obtain⟨s0,e⟩:=hM.set;have h9:=(held_fine s0).2;have h8:=hM.len;rw[e] at h8;omega
 obtain⟨t,ht⟩:∃t,M.thr[i]?=some t:=⟨_,List.getElem?_eq_getElem hi⟩;obtain⟨hth,hme⟩:=hM.thr i t ht;obtain⟨tb,R,hb,hR,hset⟩:=thAll_at M.s D.bs M.thr hl i t ht;obtain⟨g,hA,hg,hc⟩:=mcRow_at (h1.perm (by ac_rfl:_=(bk b 97 (mcC M D)*memH (shOf M.s) D.mb M.mem)*(mcRow M D*(thAll M.s D.bs M.thr*(powH*F))))) hb
 have hk:=h1.blk;have kf:=hk.frozen;have kl:=hk.lt;have k9:w.cell? ⟨b,9,none⟩=some (.slice (some ⟨g,0,none⟩) n D.tc):=by
  have:=hk.cell 9
  rw[this];show some (Value.slice D.tA M.thr.length D.tc)=_
  rw[hA,hn]
 obtain⟨pk,hpk⟩:∃pk,M.picks=pk:=⟨_,rfl⟩;have hKp:pk≤100000:=by omega
 have k10:w.cell? ⟨b,10,none⟩=some (.int .i64 pk):=by rw[←hpk];exact hk.cell 10
 rw[hn] at hi;obtain⟨M1,hM1⟩:∃M1:PMc,M1={ M with picks:=M.picks+1 }:=⟨_,rfl⟩
 have HS1:Hid (Sat ω (w.setCell ⟨b,10,none⟩ (.int .i64 ((pk:Int)+1))) (bk b 97 (mcC M1 D)*(memH (shOf M.s) D.mb M.mem*(mcRow M D*(thAll M.s D.bs M.thr*(powH*F)))))):=h_ (by
  have e:((pk:Int)+1)=((M.picks+1:Nat):Int):=by rw[hpk];simp
  rw[e,hM1];exact h1.put 10 _ rfl)
 have kb1:=HS1.o.blk;have HNX:Hid (Calls Tryz.prog 37 #[.pointer (some ⟨tb,0,none⟩)] (w.setCell ⟨b,10,none⟩ (.int .i64 ((pk:Int)+1))) (AtNext (w.setCell ⟨b,10,none⟩ (.int .i64 ((pk:Int)+1))) t.next)):=h_ (by
  have h2:Sat ω (w.setCell ⟨b,10,none⟩ (.int .i64 ((pk:Int)+1))) (thH tb M.s t*(R*(bk b 97 (mcC M1 D)*(memH (shOf M.s) D.mb M.mem*(mcRow M D*(powH*F)))))):=HS1.o.perm (by rw[hR];ac_rfl)
  exact th_next ω _ _ tb M.s t h2 hth.st fun e=>by obtain⟨x,hx⟩:=hth.some_ e;exact⟨x,hx,(hth.now x hx).well⟩)
 have kc1:(w.setCell ⟨b,10,none⟩ (.int .i64 ((pk:Int)+1))).cell? ⟨g,i,none⟩=some (pV tb):=by
  obtain⟨g',hA',hg',hc'⟩:=mcRow_at (HS1.o.perm (by ac_rfl:_=(bk b 97 (mcC M1 D)*memH (shOf M.s) D.mb M.mem)*(mcRow M D*(thAll M.s D.bs M.thr*(powH*F))))) hb
  rw[hA] at hA';injection hA' with e
  injection e with e
  subst e;exact hc'
 obtain⟨o,ho⟩:∃o,t.next.1=o:=⟨_,rfl⟩;obtain⟨ok,hok⟩:∃ok,t.next.2=ok:=⟨_,rfl⟩;have hnx:t.next=(o,ok):=by rw[←ho,←hok]
 have hopf:ok=true→OpFine o:=fun e=>by
  have h9:=hth.next (by rw[hok];exact e)
  rw[ho] at h9;exact h9
 have hE:=PMc.pick;have HE:Hid (M.pick i d=if ok=false then { M with picks:=M.picks+1,last:=o,did:=ok,thr:=M.thr.set i (t.pauseOne M.s) } else
   (if o.kind≠5 then { M with picks:=M.picks+1,last:=o,did:=ok,mem:=(doC M.mem o).2,thr:=M.thr.set i (t.tell M.s (doC M.mem o).1 d (M.picks+1)) }
    else { M with picks:=M.picks+1,last:=o,did:=ok,mem:=(doC M.mem o).2,thr:=wakeTo M.s i o.at_ o.lock.ver n (M.thr.set i (t.tell M.s (doC M.mem o).1 d (M.picks+1))) })):=h_ (by
  have e9:(M.thr.set i (t.tell M.s (doC M.mem o).1 d (M.picks+1))).length=n:=by rw[List.length_set];exact hn
  have e8:=wakeTo_all M.s i o.at_ o.lock.ver (M.thr.set i (t.tell M.s (doC M.mem o).1 d (M.picks+1)));rw[e9] at e8;rw[e8];unfold PMc.pick;rw[ht];simp only[hnx])
 rw[hnx] at HNX;obtain⟨kind,at_,old,word,⟨wv,wh,wo⟩,⟨lv,lh,lo⟩⟩:=o;unfold AtNext opA at HNX;simp only at HNX;have HLS:Hid (∀w1 ok2,ok2=ok→Sat ω w1 (bk b 97 (mcC M1 D)*(memH (shOf M.s) D.mb M.mem*(mcRow M D*(thAll M.s D.bs M.thr*(powH*F)))))→Sat ω (((((((((((w1.setCell ⟨b,11,none⟩ (.int .i64 kind)).setCell ⟨b,12,none⟩ (.int .i64 at_)).setCell ⟨b,13,none⟩ (.int .u64 old)).setCell ⟨b,14,none⟩ (.int .u64 word)).setCell ⟨b,15,none⟩ (.int .u64 wv)).setCell ⟨b,16,none⟩ (.bool wh)).setCell ⟨b,17,none⟩ (.int .i64 wo)).setCell ⟨b,18,none⟩ (.int .u64 lv)).setCell ⟨b,19,none⟩ (.bool lh)).setCell ⟨b,20,none⟩ (.int .i64 lo)).setCell ⟨b,21,none⟩ (.bool ok2)) (bk b 97 (mcC { M1 with last:=⟨kind,at_,old,word,⟨wv,wh,wo⟩,⟨lv,lh,lo⟩⟩,did:=ok } D)*(memH (shOf M.s) D.mb M.mem*(mcRow M D*(thAll M.s D.bs M.thr*(powH*F)))))):=h_ (fun w1 ok2 e h9=>by subst e;exact mc_putLast kind at_ old word wv wo lv lo wh lh ok2 h9)
 have HBL:Hid (∀w1,Sat ω w1 (bk b 97 (mcC M1 D)*(memH (shOf M.s) D.mb M.mem*(mcRow M D*(thAll M.s D.bs M.thr*(powH*F)))))→Blk w1 b 97 (mcC M1 D)):=h_ (fun w1 h9=>h9.blk)
 have HS:=h_ hM.kept;have HTH:=h_ hth;obtain⟨y0,hy0⟩:∃y0,M.pick i d=y0:=⟨_,rfl⟩;rw[hy0] at HE ⊢;have dge:¬(n:Int)≤(i:Int):=by omega
 have dlt:¬(i:Int)<0:=by omega
 have dil:(i:Int)<(n:Int):=by omega
 cases ok
 ·have HPO:Hid (∀w1,Sat ω w1 (bk b 97 (mcC { M1 with last:=⟨kind,at_,old,word,⟨wv,wh,wo⟩,⟨lv,lh,lo⟩⟩,did:=false } D)*(memH (shOf M.s) D.mb M.mem*(mcRow M D*(thAll M.s D.bs M.thr*(powH*F)))))→Calls Tryz.prog 38 #[.pointer (some ⟨tb,0,none⟩)] w1 (Rets ω (powH*F) (.tuple #[]) (mcH b y0))):=h_ (fun w1 h9=>by
   have h10:Sat ω w1 (thH tb M.s t*(R*(bk b 97 (mcC { M1 with last:=⟨kind,at_,old,word,⟨wv,wh,wo⟩,⟨lv,lh,lo⟩⟩,did:=false } D)*(memH (shOf M.s) D.mb M.mem*(mcRow M D*(powH*F)))))):=h9.perm (by rw[hR];ac_rfl)
   refine(th_pauseOne ω w1 _ tb M.s t h10 HS.o HTH.o.toThBase.fit HTH.o.pz).mono ?_;rintro e w2 ⟨rfl,h11⟩;refine⟨rfl,?_⟩;rw[HE.o,if_pos rfl];refine mcX_close (D:=D) (by simpa using hl) ?_
   have e1:mcC { M with picks:=M.picks+1,last:=⟨kind,at_,old,word,⟨wv,wh,wo⟩,⟨lv,lh,lo⟩⟩,did:=false,thr:=M.thr.set i (t.pauseOne M.s) } D=mcC { M1 with last:=⟨kind,at_,old,word,⟨wv,wh,wo⟩,⟨lv,lh,lo⟩⟩,did:=false } D:=by
    rw[hM1];unfold mcC;simp only[List.length_set]
   have e2:mcRow { M with picks:=M.picks+1,last:=⟨kind,at_,old,word,⟨wv,wh,wo⟩,⟨lv,lh,lo⟩⟩,did:=false,thr:=M.thr.set i (t.pauseOne M.s) } D=mcRow M D:=by
    unfold mcRow;simp only[List.length_set]
   rw[e1,e2];refine h11.perm ?_;simp only;rw[hset];ac_rfl)
  go_enter Tryz.func13,Tryz.ntmps13;go_wp2_with (first
   |(go_at_call 37;refine(HNX.o).mono ?_;rintro e w1 ⟨rfl,ho⟩;have HB:=h_ (HS1.o.nob ho);have kM:=HBL.o _ HB.o;have qf:=kM.frozen;have ql:=kM.lt;obtain⟨u11_,m11⟩:∃u,w1.cell? ⟨b,11,none⟩=some u:=⟨_,kM.cell 11⟩;obtain⟨u12_,m12⟩:∃u,w1.cell? ⟨b,12,none⟩=some u:=⟨_,kM.cell 12⟩;obtain⟨u13_,m13⟩:∃u,w1.cell? ⟨b,13,none⟩=some u:=⟨_,kM.cell 13⟩;obtain⟨u14_,m14⟩:∃u,w1.cell? ⟨b,14,none⟩=some u:=⟨_,kM.cell 14⟩;obtain⟨u15_,m15⟩:∃u,w1.cell? ⟨b,15,none⟩=some u:=⟨_,kM.cell 15⟩;obtain⟨u16_,m16⟩:∃u,w1.cell? ⟨b,16,none⟩=some u:=⟨_,kM.cell 16⟩;obtain⟨u17_,m17⟩:∃u,w1.cell? ⟨b,17,none⟩=some u:=⟨_,kM.cell 17⟩;obtain⟨u18_,m18⟩:∃u,w1.cell? ⟨b,18,none⟩=some u:=⟨_,kM.cell 18⟩;obtain⟨u19_,m19⟩:∃u,w1.cell? ⟨b,19,none⟩=some u:=⟨_,kM.cell 19⟩;obtain⟨u20_,m20⟩:∃u,w1.cell? ⟨b,20,none⟩=some u:=⟨_,kM.cell 20⟩;obtain⟨u21_,m21⟩:∃u,w1.cell? ⟨b,21,none⟩=some u:=⟨_,kM.cell 21⟩)
   |(go_at_call 38;refine(HPO.o _ (HLS.o _ _ rfl HB.o)).mono ?_;rintro e w2 ⟨rfl,hs⟩;have HZ:=h_ hs))
  go_ret;exact⟨rfl,HZ.o⟩
 ·obtain⟨M2,hM2⟩:∃M2:PMc,M2={ M1 with last:=⟨kind,at_,old,word,⟨wv,wh,wo⟩,⟨lv,lh,lo⟩⟩,did:=true }:=⟨_,rfl⟩
  rw[←hM2] at HLS;have hof:=hopf rfl;obtain⟨r,hr⟩:∃r,doC M.mem ⟨kind,at_,old,word,⟨wv,wh,wo⟩,⟨lv,lh,lo⟩⟩=r:=⟨_,rfl⟩;rw[hr] at HE;obtain⟨t2,ht2⟩:∃t2,t.tell M.s r.1 d (M.picks+1)=t2:=⟨_,rfl⟩;rw[ht2] at HE;have hrd:r.1=(doM M.mem ⟨kind,at_,old,word,⟨wv,wh,wo⟩,⟨lv,lh,lo⟩⟩).1:=by rw[←hr];rfl
  have HDO:Hid (∀w1,Sat ω w1 (bk b 97 (mcC M2 D)*(memH (shOf M.s) D.mb M.mem*(mcRow M D*(thAll M.s D.bs M.thr*(powH*F)))))→Calls Tryz.prog 35 #[.pointer (some ⟨D.mb,0,none⟩),.agg #[.int .i64 kind,.int .i64 at_,.int .u64 old,.int .u64 word,.int .u64 wv,.bool wh,.int .i64 wo,.int .u64 lv,.bool lh,.int .i64 lo]] w1 fun e w'=>e=.returned (ansA r.1)∧Sat ω w' (bk b 97 (mcC M2 D)*(memH (shOf M.s) D.mb r.2*(mcRow M D*(thAll M.s D.bs M.thr*(powH*F)))))∧Blk w' b 97 (mcC M2 D)):=h_ (fun w1 h9=>by
   refine(mem_do ω w1 _ (shOf M.s) D.mb M.mem h9.swap hM.mem.fits ⟨kind,at_,old,word,⟨wv,wh,wo⟩,⟨lv,lh,lo⟩⟩ hof.at_ ⟨hof.k1,hof.k2⟩).mono ?_;rintro e w2 ⟨rfl,h10⟩;rw[hr] at h10 ⊢;exact⟨rfl,h10.swap,h10.swap.blk⟩)
  have hstf:StFine M.s∧M.s.threads≤1000:=by
   obtain⟨s0,e⟩:=hM.set;have h9:=held_fine s0;rw[e];exact⟨h9.1,by have:=h9.2;omega⟩
  have hn2:t.next.2=true:=by rw[hnx]
  have hn1:t.next.1=⟨kind,at_,old,word,⟨wv,wh,wo⟩,⟨lv,lh,lo⟩⟩:=by rw[hnx]
  have HT2F:Hid (ThFine (M.picks+1) t2):=h_ (by
   have h9:=hth.tell hstf.1 hstf.2 hM.mem hn2 d (M.picks+1) (Nat.le_refl _);rw[hn1,←hrd,ht2] at h9;exact h9)
  have HTE:Hid (∀w1,Sat ω w1 (bk b 97 (mcC M2 D)*(memH (shOf M.s) D.mb r.2*(mcRow M D*(thAll M.s D.bs M.thr*(powH*F)))))→Calls Tryz.prog 39 #[.pointer (some ⟨tb,0,none⟩),ansA r.1,.int .u8 d,.int .i64 ((M.picks+1:Nat):Int)] w1 fun e w'=>e=.returned (.tuple #[])∧Sat ω w' (bk b 97 (mcC M2 D)*(memH (shOf M.s) D.mb r.2*(mcRow M D*(thAll M.s D.bs (M.thr.set i t2)*(powH*F)))))∧Blk w' b 97 (mcC M2 D)):=h_ (fun w1 h9=>by
   have h10:Sat ω w1 (thH tb M.s t*(powH*(R*(bk b 97 (mcC M2 D)*(memH (shOf M.s) D.mb r.2*(mcRow M D*F)))))):=h9.perm (by rw[hR];ac_rfl)
   refine(th_tell ω w1 _ tb M.s t h10 HS.o M.picks HTH.o (by omega) r.1 d (M.picks+1) hd ?_).mono ?_
   ·intro e1 x hx;have h11:=HTH.o.now x hx;have hxn:t.next=x.next:=by unfold PTh.next;rw[e1,hx];rfl
    have hx2:x.next.2=true:=by rw[←hxn];exact hn2
    have hx1:x.next.1=⟨kind,at_,old,word,⟨wv,wh,wo⟩,⟨lv,lh,lo⟩⟩:=by rw[←hxn];exact hn1
    refine⟨h11,?_,?_⟩
    ·have h12:=h11.tell hstf.1 hM.mem hx2;rw[hx1,←hrd] at h12;exact h12
    ·intro h13 f hf;have h12:=h11.tell_word hM.mem hx2 h13 f hf;rw[hx1,←hrd] at h12;exact h12
   ·rintro e w2 ⟨rfl,h11⟩;rw[ht2] at h11;have h12:Sat ω w2 (bk b 97 (mcC M2 D)*(memH (shOf M.s) D.mb r.2*(mcRow M D*(thAll M.s D.bs (M.thr.set i t2)*(powH*F))))):=h11.perm (by rw[hset];ac_rfl)
    exact⟨rfl,h12,h12.blk⟩)
  have hM2c:mcC M2 D=#[.int .i64 M.s.words,.int .i64 M.s.stripes,.int .i64 M.s.wide,.int .i64 M.s.threads,.int .u64 M.s.start,.int .i64 M.s.spins,.int .i64 M.s.writes,.int .i64 M.s.fuel,pV D.mb,.slice (some ⟨g,0,none⟩) n D.tc,.int .i64 ((M.picks+1:Nat):Int),.int .i64 kind,.int .i64 at_,.int .u64 old,.int .u64 word,.int .u64 wv,.bool wh,.int .i64 wo,.int .u64 lv,.bool lh,.int .i64 lo,.bool true]:=by rw[hM2,hM1,←hA,←hn];rfl
  have HCL:Hid (∀w1 thr,thr.length=n→M.pick i d={ M with picks:=M.picks+1,last:=⟨kind,at_,old,word,⟨wv,wh,wo⟩,⟨lv,lh,lo⟩⟩,did:=true,mem:=r.2,thr:=thr }→Sat ω w1 (bk b 97 (mcC M2 D)*(memH (shOf M.s) D.mb r.2*(mcRow M D*(thAll M.s D.bs thr*(powH*F)))))→Sat ω w1 (mcH b y0*(powH*F))):=h_ (fun w1 thr hlen e h9=>by
   rw[←hy0,e];refine mcX_close (D:=D) (by simp only;omega) ?_
   have e1:mcC { M with picks:=M.picks+1,last:=⟨kind,at_,old,word,⟨wv,wh,wo⟩,⟨lv,lh,lo⟩⟩,did:=true,mem:=r.2,thr:=thr } D=mcC M2 D:=by
    rw[hM2,hM1];unfold mcC;simp only[hlen,hn]
   have e2:mcRow { M with picks:=M.picks+1,last:=⟨kind,at_,old,word,⟨wv,wh,wo⟩,⟨lv,lh,lo⟩⟩,did:=true,mem:=r.2,thr:=thr } D=mcRow M D:=by
    unfold mcRow;simp only[hlen,hn]
   rw[e1,e2];exact h9)
  have HWK:Hid (∀k,k<n→∃tbk,(∀w1,Sat ω w1 (bk b 97 (mcC M2 D)*(memH (shOf M.s) D.mb r.2*(mcRow M D*(thAll M.s D.bs (wakeTo M.s i at_ lv (k) (M.thr.set i t2))*(powH*F)))))→g<w1.heap.size∧w1.cell? ⟨g,k,none⟩=some (pV tbk))∧(k≠i→∀w1,Sat ω w1 (bk b 97 (mcC M2 D)*(memH (shOf M.s) D.mb r.2*(mcRow M D*(thAll M.s D.bs (wakeTo M.s i at_ lv (k) (M.thr.set i t2))*(powH*F)))))→Calls Tryz.prog 40 #[.pointer (some ⟨tbk,0,none⟩),.int .i64 at_,.int .u64 lv] w1 fun e w'=>e=.returned (.tuple #[])∧Sat ω w' (bk b 97 (mcC M2 D)*(memH (shOf M.s) D.mb r.2*(mcRow M D*(thAll M.s D.bs (wakeTo M.s i at_ lv (k+1) (M.thr.set i t2))*(powH*F)))))∧Blk w' b 97 (mcC M2 D))∧(k=i→∀w1,Sat ω w1 (bk b 97 (mcC M2 D)*(memH (shOf M.s) D.mb r.2*(mcRow M D*(thAll M.s D.bs (wakeTo M.s i at_ lv (k) (M.thr.set i t2))*(powH*F)))))→Sat ω w1 (bk b 97 (mcC M2 D)*(memH (shOf M.s) D.mb r.2*(mcRow M D*(thAll M.s D.bs (wakeTo M.s i at_ lv (k+1) (M.thr.set i t2))*(powH*F))))))):=h_ (fun k hk=>by
   obtain⟨o,ho⟩:∃o,(M.thr.set i t2)[k]?=some o:=⟨_,List.getElem?_eq_getElem (by rw[List.length_set];omega)⟩
   have hw1:=wakeTo_at M.s i at_ lv k (M.thr.set i t2);rw[ho] at hw1;have hlk:D.bs.length=(wakeTo M.s i at_ lv k (M.thr.set i t2)).length:=by rw[wakeTo_len,List.length_set];exact hl
   obtain⟨tbk,Rk,hbk,hRk,hsetk⟩:=thAll_at M.s D.bs _ hlk k o hw1;refine⟨tbk,fun w1 h9=>?_,fun hne w1 h9=>?_,fun he w1 h9=>?_⟩
   ·obtain⟨g',hA',hg',hc'⟩:=mcRow_at (h9.perm (by ac_rfl:_=(bk b 97 (mcC M2 D)*memH (shOf M.s) D.mb r.2)*(mcRow M D*(thAll M.s D.bs (wakeTo M.s i at_ lv k (M.thr.set i t2))*(powH*F))))) hbk
    rw[hA] at hA';injection hA' with e
    injection e with e
    subst e;exact⟨hg',hc'⟩
   ·have hof9:ThFine M.picks o:=by
     rw[List.getElem?_set_ne (Ne.symm hne)] at ho;exact(hM.thr k o ho).1
    have h10:Sat ω w1 (thH tbk M.s o*(Rk*(bk b 97 (mcC M2 D)*(memH (shOf M.s) D.mb r.2*(mcRow M D*(powH*F)))))):=h9.perm (by rw[hRk];ac_rfl)
    refine(th_wake ω w1 _ tbk M.s o h10 HS.o hof9.toThBase.fit (fun x hx=>(hof9.now x hx).reads) at_ lv).mono ?_
    rintro e w2 ⟨rfl,h11⟩;have hsu:=wakeTo_succ M.s i at_ lv k (M.thr.set i t2) o ho;rw[if_neg hne] at hsu;have h12:Sat ω w2 (bk b 97 (mcC M2 D)*(memH (shOf M.s) D.mb r.2*(mcRow M D*(thAll M.s D.bs (wakeTo M.s i at_ lv (k+1) (M.thr.set i t2))*(powH*F))))):=h11.perm (by rw[hsu,hsetk];ac_rfl)
    exact⟨rfl,h12,h12.blk⟩
   ·have hsu:=wakeTo_succ M.s i at_ lv k (M.thr.set i t2) o ho;rw[if_pos he] at hsu;refine h9.perm ?_;rw[hsu,hsetk,hRk])
  have HKB:Hid (∀k w1,Sat ω w1 (bk b 97 (mcC M2 D)*(memH (shOf M.s) D.mb r.2*(mcRow M D*(thAll M.s D.bs (wakeTo M.s i at_ lv (k) (M.thr.set i t2))*(powH*F)))))→Blk w1 b 97 (mcC M2 D)):=h_ (fun k w1 h9=>h9.blk)
  have HK0:Hid (∀w1,Sat ω w1 (bk b 97 (mcC M2 D)*(memH (shOf M.s) D.mb r.2*(mcRow M D*(thAll M.s D.bs (M.thr.set i t2)*(powH*F)))))→Sat ω w1 (bk b 97 (mcC M2 D)*(memH (shOf M.s) D.mb r.2*(mcRow M D*(thAll M.s D.bs (wakeTo M.s i at_ lv (0) (M.thr.set i t2))*(powH*F)))))):=h_ (fun w1 h9=>by rw[wakeTo_zero];exact h9)
  have HF1:Hid (kind≠5→∀w1,Sat ω w1 (bk b 97 (mcC M2 D)*(memH (shOf M.s) D.mb r.2*(mcRow M D*(thAll M.s D.bs (M.thr.set i t2)*(powH*F)))))→Sat ω w1 (mcH b y0*(powH*F))):=h_ (fun hk9 w1 h9=>HCL.o w1 _ (by rw[List.length_set];exact hn) (by rw[hy0,HE.o,if_neg (by simp),if_pos hk9]) h9)
  have HF2:Hid (kind=5→∀w1,Sat ω w1 (bk b 97 (mcC M2 D)*(memH (shOf M.s) D.mb r.2*(mcRow M D*(thAll M.s D.bs (wakeTo M.s i at_ lv (n) (M.thr.set i t2))*(powH*F)))))→Sat ω w1 (mcH b y0*(powH*F))):=h_ (fun hk9 w1 h9=>HCL.o w1 _ (by rw[wakeTo_len,List.length_set];exact hn) (by rw[hy0,HE.o,if_neg (by simp),if_neg (by simp[hk9])]) h9)
  have HMC:=h_ hM2c;have HLB:Hid (∀w1,Sat ω w1 (bk b 97 (mcC M2 D)*(memH (shOf M.s) D.mb M.mem*(mcRow M D*(thAll M.s D.bs M.thr*(powH*F)))))→Blk w1 b 97 (mcC M2 D)):=h_ (fun w1 h9=>h9.blk)
  obtain⟨SK,hSK⟩:∃SK:Nat→HP,SK=fun k=>bk b 97 (mcC M2 D)*(memH (shOf M.s) D.mb r.2*(mcRow M D*(thAll M.s D.bs (wakeTo M.s i at_ lv (k) (M.thr.set i t2))*(powH*F)))):=⟨_,rfl⟩
  have HWK2:Hid (∀k,k<n→∃tbk,(∀w1,Sat ω w1 (SK k)→g<w1.heap.size∧w1.cell? ⟨g,k,none⟩=some (pV tbk))∧(k≠i→∀w1,Sat ω w1 (SK k)→Calls Tryz.prog 40 #[.pointer (some ⟨tbk,0,none⟩),.int .i64 at_,.int .u64 lv] w1 fun e w'=>e=.returned (.tuple #[])∧Sat ω w' (SK (k+1))∧Blk w' b 97 (mcC M2 D))∧(k=i→∀w1,Sat ω w1 (SK k)→Sat ω w1 (SK (k+1)))):=h_ (by rw[hSK];exact HWK.o)
  have HKB2:Hid (∀k w1,Sat ω w1 (SK k)→Blk w1 b 97 (mcC M2 D)):=h_ (by rw[hSK];exact HKB.o)
  have HK02:Hid (∀w1,Sat ω w1 (bk b 97 (mcC M2 D)*(memH (shOf M.s) D.mb r.2*(mcRow M D*(thAll M.s D.bs (M.thr.set i t2)*(powH*F)))))→Sat ω w1 (SK 0)):=h_ (by rw[hSK];exact HK0.o)
  have HF22:Hid (kind=5→∀w1,Sat ω w1 (SK n)→Sat ω w1 (mcH b y0*(powH*F))):=h_ (by rw[hSK];exact HF2.o)
  obtain⟨CS,hCS⟩:∃CS,mcC M2 D=CS:=⟨_,rfl⟩;rw[hCS] at HWK2 HKB2 HK02 HF1 HMC HLB HDO HTE HLS;rw[←hpk] at HS1;rw[hpk] at HS1 HTE HMC;obtain⟨an,han⟩:∃an,ansA r.1=an:=⟨_,rfl⟩;rw[han] at HDO HTE;go_enter Tryz.func13,Tryz.ntmps13;go_wp2_with (go_at_call 37;refine(HNX.o).mono ?_;rintro e w1 ⟨rfl,ho⟩;have HB:=h_ (HS1.o.nob ho);have kM:=HBL.o _ HB.o;have qf:=kM.frozen;have ql:=kM.lt;obtain⟨u11_,m11⟩:∃u,w1.cell? ⟨b,11,none⟩=some u:=⟨_,kM.cell 11⟩;obtain⟨u12_,m12⟩:∃u,w1.cell? ⟨b,12,none⟩=some u:=⟨_,kM.cell 12⟩;obtain⟨u13_,m13⟩:∃u,w1.cell? ⟨b,13,none⟩=some u:=⟨_,kM.cell 13⟩;obtain⟨u14_,m14⟩:∃u,w1.cell? ⟨b,14,none⟩=some u:=⟨_,kM.cell 14⟩;obtain⟨u15_,m15⟩:∃u,w1.cell? ⟨b,15,none⟩=some u:=⟨_,kM.cell 15⟩;obtain⟨u16_,m16⟩:∃u,w1.cell? ⟨b,16,none⟩=some u:=⟨_,kM.cell 16⟩;obtain⟨u17_,m17⟩:∃u,w1.cell? ⟨b,17,none⟩=some u:=⟨_,kM.cell 17⟩;obtain⟨u18_,m18⟩:∃u,w1.cell? ⟨b,18,none⟩=some u:=⟨_,kM.cell 18⟩;obtain⟨u19_,m19⟩:∃u,w1.cell? ⟨b,19,none⟩=some u:=⟨_,kM.cell 19⟩;obtain⟨u20_,m20⟩:∃u,w1.cell? ⟨b,20,none⟩=some u:=⟨_,kM.cell 20⟩;obtain⟨u21_,m21⟩:∃u,w1.cell? ⟨b,21,none⟩=some u:=⟨_,kM.cell 21⟩);have HD0:=h_ (HLS.o _ true rfl HB.o);generalize (((((((((((w1.setCell ⟨b,11,none⟩ (.int .i64 kind)).setCell ⟨b,12,none⟩ (.int .i64 at_)).setCell ⟨b,13,none⟩ (.int .u64 old)).setCell ⟨b,14,none⟩ (.int .u64 word)).setCell ⟨b,15,none⟩ (.int .u64 wv)).setCell ⟨b,16,none⟩ (.bool wh)).setCell ⟨b,17,none⟩ (.int .i64 wo)).setCell ⟨b,18,none⟩ (.int .u64 lv)).setCell ⟨b,19,none⟩ (.bool lh)).setCell ⟨b,20,none⟩ (.int .i64 lo)).setCell ⟨b,21,none⟩ (.bool true))=wC at *
  have HD:=h_ (HD0.o.drewN 1);have HS0:MchS b CS wC.drew:=HLB.o _ HD.o;refine gN (MchS b CS) HS0 fun hh0=>?_
  refine tH 0 ?_ rfl ?_ (tH 1 ?_ rfl ?_ (tH 2 ?_ rfl ?_ (tH 3 ?_ rfl ?_ (tH 4 ?_ rfl ?_ (tH 5 ?_ rfl ?_ (tH 6 ?_ rfl ?_ (tH 7 ?_ rfl ?_ (tH 8 ?_ rfl ?_ (tH 10 ?_ rfl ?_ (tH 11 ?_ rfl ?_ (tH 12 ?_ rfl ?_ (tH 13 ?_ rfl ?_ (tH 14 ?_ rfl ?_ ?_)))))))))))));all_goals (try (
   intro w hSw;have jl:=hSw.lt;have jf:=hSw.frozen;have j8:w.cell? ⟨b,8,none⟩=some (.pointer (some ⟨D.mb,0,none⟩)):=(by have e:=((hSw:Blk _ _ _ _)).cell 8;rw[HMC.o] at e;exact e);have j10:w.cell? ⟨b,10,none⟩=some (.int .i64 ((pk+1:Nat):Int)):=(by have e:=((hSw:Blk _ _ _ _)).cell 10;rw[HMC.o] at e;exact e);have j11:w.cell? ⟨b,11,none⟩=some (.int .i64 kind):=(by have e:=((hSw:Blk _ _ _ _)).cell 11;rw[HMC.o] at e;exact e);have j12:w.cell? ⟨b,12,none⟩=some (.int .i64 at_):=(by have e:=((hSw:Blk _ _ _ _)).cell 12;rw[HMC.o] at e;exact e);have j13:w.cell? ⟨b,13,none⟩=some (.int .u64 old):=(by have e:=((hSw:Blk _ _ _ _)).cell 13;rw[HMC.o] at e;exact e);have j14:w.cell? ⟨b,14,none⟩=some (.int .u64 word):=(by have e:=((hSw:Blk _ _ _ _)).cell 14;rw[HMC.o] at e;exact e);have j15:w.cell? ⟨b,15,none⟩=some (.int .u64 wv):=(by have e:=((hSw:Blk _ _ _ _)).cell 15;rw[HMC.o] at e;exact e);have j16:w.cell? ⟨b,16,none⟩=some (.bool wh):=(by have e:=((hSw:Blk _ _ _ _)).cell 16;rw[HMC.o] at e;exact e);have j17:w.cell? ⟨b,17,none⟩=some (.int .i64 wo):=(by have e:=((hSw:Blk _ _ _ _)).cell 17;rw[HMC.o] at e;exact e);have j18:w.cell? ⟨b,18,none⟩=some (.int .u64 lv):=(by have e:=((hSw:Blk _ _ _ _)).cell 18;rw[HMC.o] at e;exact e);have j19:w.cell? ⟨b,19,none⟩=some (.bool lh):=(by have e:=((hSw:Blk _ _ _ _)).cell 19;rw[HMC.o] at e;exact e);have j20:w.cell? ⟨b,20,none⟩=some (.int .i64 lo):=(by have e:=((hSw:Blk _ _ _ _)).cell 20;rw[HMC.o] at e;exact e)
   try simp only[sP]
   go_simp<;>(try with_reducible rfl)))
  try simp only[sP]
  refine oH 9 rfl fun K hK=>?_
  go_simp;go_at_call 35;refine(HDO.o _ HD.o).mono ?_;rintro e wA ⟨rfl,hs,hz⟩;have HA:=h_ hs;have ZA:=h_ hz;(try go_wp2_with fail);refine hK.q ?_ fun hh1=>?_
  ·exact ZA.out
  try simp only[sP]
  refine oH 15 rfl fun K hK=>?_
  go_simp;go_at_call 39;refine(HTE.o _ HA.o).mono ?_;rintro e wT ⟨rfl,hs,hz⟩;have HT:=h_ hs;have ZT:=h_ hz;clear hs hz;(try go_wp2_with fail);refine hK.q ?_ fun hh2=>?_
  ·exact ZT.out
  clear hK K hh1;try simp only[sP]
  refine dN ?_;generalize (wT:World)=wT2 at *
  have kT:=ZT.out;have tf:=kT.frozen;have tl:=kT.lt;have t9:wT2.cell? ⟨b,9,none⟩=some (.slice (some ⟨g,0,none⟩) n D.tc):=(by have e:=(kT).cell 9;rw[HMC.o] at e;exact e);have t11:wT2.cell? ⟨b,11,none⟩=some (.int .i64 kind):=(by have e:=(kT).cell 11;rw[HMC.o] at e;exact e);have t12:wT2.cell? ⟨b,12,none⟩=some (.int .i64 at_):=(by have e:=(kT).cell 12;rw[HMC.o] at e;exact e);have t18:wT2.cell? ⟨b,18,none⟩=some (.int .u64 lv):=(by have e:=(kT).cell 18;rw[HMC.o] at e;exact e)
  clear kT;by_cases h5:kind=5
  ·have d5:((kind:Int) != 5)=false:=by rw[h5];rfl
   have HF3:=h_ (HF22.o h5);have HSZ:=h_ (HK02.o _ HT.o);clear h5 HF1 HF22 HK02 HT;go_wp2;go_loopw [8,9,80] (fun _ _ c wr=>∃k:Nat,k≤n∧c=.int .i64 k∧Hid (Sat ω wr (SK k))) (fun _ _ c _=>n-(intOf c).toNat)
   case atStart=>exact⟨0,by omega,rfl,HSZ.o⟩
   case round =>
    obtain⟨k,hk,rfl,HA2⟩:=hrel;by_cases hlt:k<n
    ·obtain⟨tbk,e1,e2,e3⟩:=HWK2.o k hlt;obtain⟨hgk,r0⟩:=e1 wr HA2.o;have kR:=HKB2.o k wr HA2.o;have rf:=kR.frozen;have rl:=kR.lt;by_cases hki:k=i
     ·have HN:=h_ (e3 hki wr HA2.o);have dk:((k:Int) != (i:Int))=false:=by rw[hki];simp
      clear e1 e2 e3 kR hki;go_wp2;exact⟨⟨k+1,by omega,by go_num,HN.o⟩,by simp[intOf];omega⟩
     ·have HW:=h_ (e2 hki);have dk:((k:Int) != (i:Int))=true:=by simp;omega
      have HAD:=h_ (HA2.o.drewN 1);have HSR:MchS b CS wr.drew:=HKB2.o k _ HAD.o;clear e1 e2 e3 kR hki;go_wp2;refine gN (MchS b CS) HSR fun hh0=>?_
      refine tH 0 ?_ rfl ?_ (tH 1 ?_ rfl ?_ (tH 2 ?_ rfl ?_ (tH 3 ?_ rfl ?_ (tH 4 ?_ rfl ?_ (tH 5 ?_ rfl ?_ (tH 6 ?_ rfl ?_ (tH 7 ?_ rfl ?_ (tH 8 ?_ rfl ?_ (tH 9 ?_ rfl ?_ (tH 10 ?_ rfl ?_ (tH 11 ?_ rfl ?_ ?_)))))))))));all_goals (try (
       intro w hSw;have jl:=hSw.lt;have jf:=hSw.frozen;have j12:w.cell? ⟨b,12,none⟩=some (.int .i64 at_):=(by have e:=((hSw:Blk _ _ _ _)).cell 12;rw[HMC.o] at e;exact e);have j18:w.cell? ⟨b,18,none⟩=some (.int .u64 lv):=(by have e:=((hSw:Blk _ _ _ _)).cell 18;rw[HMC.o] at e;exact e)
       try simp only[sP]
       go_simp<;>(try with_reducible rfl)))
      try simp only[sP]
      refine oH 12 rfl fun K hK=>?_
      go_simp;go_at_call 40;refine(HW.o _ HAD.o).mono ?_;rintro e wW ⟨rfl,hs,hz⟩;have HWs:=h_ hs;have HWz:=h_ hz;clear hs hz;(try go_wp2_with fail);refine hK.q ?_ fun hh1=>?_
      ·exact HWz.o
      clear hK K hh0;try simp only[sP]
      refine dN ?_;go_wp2;exact⟨⟨k+1,by omega,by go_num,HWs.o⟩,by simp[intOf];omega⟩
    ·obtain rfl:k=n:=by omega
     have HZ:=h_ (HF3.o _ HA2.o);go_wp2;go_ret;exact⟨rfl,HZ.o⟩
  ·have d5:((kind:Int) != 5)=true:=by simp;omega
   have HZ:=h_ (HF1.o h5 _ HT.o);clear h5 HF1 HF22 HK02 HWK2 HKB2;go_wp2;go_ret;exact⟨rfl,HZ.o⟩
def jjV (vs:List (Option Addr×Nat))(L:List (List (List PIns))):List Value:=List.zipWith (fun a l=>Value.slice a.1 l.length a.2) vs L
def jjAll:List (Option Addr×Nat)→List (List (List PIns))→HP
 |a::vs,l::L=>jobsH a.1 a.2 l*jjAll vs L
 |_,_=>emp
theorem jjAll_at:∀(vs:List (Option Addr×Nat)) (L:List (List (List PIns))),vs.length=L.length→∀i (hi:i<L.length),∃A c R,(jjV vs L)[i]?=some (.slice A (L.getD i []).length c)∧jjAll vs L=jobsH A c (L.getD i [])*R
 | [],[],_,i,hi=>by simp at hi
 |a::vs,l::L,h,0,_=>⟨a.1,a.2,jjAll vs L,by simp[jjV],by simp[jjAll]⟩
 |a::vs,l::L,h,i+1,hi=>by
  obtain⟨A,c,R,h1,h2⟩:=jjAll_at vs L (by simpa using h) i (by simpa using hi)
  refine⟨A,c,jobsH a.1 a.2 l*R,by simpa [jjV] using h1,?_⟩
  show jobsH a.1 a.2 l*jjAll vs L=_
  rw[h2];simp only[List.getD_cons_succ];ac_rfl
def jjX (A:Option Addr)(c:Nat)(vs:List (Option Addr×Nat))(L:List (List (List PIns))):HP:=row 29 1 (.slice A L.length c) L.length (jjV vs L)*jjAll vs L
def mcK (s:PSt)(L:List (List (List PIns)))(k:Nat):PMc:=⟨s,(doC (mem0 s) ⟨2,5,0,14,PLk.zero,PLk.zero⟩).2,(List.range k).map (fun i=>PTh.new i s (L.getD i [])),0,POp.zero,false⟩
theorem mem1_eq (s:PSt)(h:32≤s.words):(doC (mem0 s) ⟨2,5,0,14,PLk.zero,PLk.zero⟩).2=⟨(List.replicate s.words 0).set 5 14,List.replicate s.stripes PLk.zero,s.start,List.replicate s.threads 0,1⟩:=by
 have e:doM (mem0 s) ⟨2,5,0,14,PLk.zero,PLk.zero⟩=(PAns.zero,{ mem0 s with words:=(mem0 s).words.set 5 14 }):=by
  show(if 1≤5∧5<(mem0 s).words.length then _ else _:PAns×PMm)=_
  rw[if_pos ⟨by omega,by simp[mem0];omega⟩]
 have e2:wrap64 ((0:Int)+1)=1:=by decide +kernel
 unfold doC;rw[e];simp only[PAns.zero,mem0,if_true,e2]
theorem mcK_new (s:PSt)(L:List (List (List PIns)))(h4:L.length≤4):mcK { s with threads:=L.length }.held L (max 1 L.length)=PMc.new s L:=by
 have e0:L.take 4=L:=List.take_of_length_le h4;unfold mcK PMc.new;rw[mem1_eq _ (by simp only[PSt.held];omega),e0]
 have e1:({ s with threads:=L.length }:PSt).held.threads=max 1 L.length:=by simp only[PSt.held];omega
 simp only[e1];have e2:freshW ({ s with threads:=L.length }:PSt).held.words=(List.replicate ({ s with threads:=L.length }:PSt).held.words 0).set 5 14:=by
  unfold freshW
  have:max 32 (min ({ s with threads:=L.length }:PSt).held.words 256)=({ s with threads:=L.length }:PSt).held.words:=by simp only[PSt.held];omega
  rw[this]
 rw[e2]
theorem jobsH_nil {ω w:World}{F:HP}(h:Sat ω w F):Sat ω w (jobsH none 0 []*F):=by
 refine Sat.to_ex [] ?_;refine(Sat.to_fact rfl ?_).assoc';refine Sat.assoc' ?_;refine Sat.nil ?_ _ _;show Sat ω w (emp*F)
 rw[emp_star];exact h
theorem mcRow_snoc {ω w:World}{F:HP}{b:Nat}{s:PSt}{L:List (List (List PIns))}{k tb:Nat}{D:McD}{A:Option Addr}{c:Nat}(hl:D.bs.length=k)
  (h:Sat ω w (row 102 1 (.slice A (k+1) c) (k+1) (D.bs.map pV++[pV tb])*(bk b 97 (mcC (mcK s L k) D)*(memH (shOf s) D.mb (mcK s L k).mem*(thAll s D.bs (mcK s L k).thr*(thH tb s (PTh.new k s (L.getD k []))*F)))))):
  Sat ω (w.setCell ⟨b,9,none⟩ (.slice A (k+1) c)) (mcX b (mcK s L (k+1)) { D with tA:=A,tc:=c,bs:=D.bs++[tb] }*F):=by
 have e3:(mcK s L (k+1)).thr=(mcK s L k).thr++[PTh.new k s (L.getD k [])]:=by
  unfold mcK;simp only[List.range_succ,List.map_append,List.map_singleton]
 have e4:(mcK s L (k+1)).thr.length=k+1:=by simp[mcK]
 have e5:(mcK s L k).thr.length=k:=by simp[mcK]
 have h2:=h.swap.put 9 (.slice A (k+1) c) (cs':=mcC (mcK s L (k+1)) { D with tA:=A,tc:=c,bs:=D.bs++[tb] }) (by unfold mcC;simp only[e4,e5];rfl)
 unfold mcX;rw[e4];have h3:=h2.to_fact (p:=(D.bs++[tb]).length=k+1) (by simp[hl])
 have e6:=thAll_snoc s tb (PTh.new k s (L.getD k [])) D.bs (mcK s L k).thr (by rw[hl,e5])
 refine h3.perm ?_;show _=(_*(memH (shOf s) D.mb (mcK s L k).mem*(fact ((D.bs++[tb]).length=k+1)*(row 102 1 (.slice A (k+1) c) (k+1) ((D.bs++[tb]).map pV)*thAll s (D.bs++[tb]) (mcK s L (k+1)).thr))))*F
 rw[e3,e6,List.map_append];show _=(_*(_*(_*(row 102 1 (.slice A (k+1) c) (k+1) (D.bs.map pV++[pV tb])*_))))*F
 ac_rfl
theorem mcX_zero {ω w:World}{F:HP}{b mb:Nat}{s:PSt}{L:List (List (List PIns))}(h:Sat ω w (bk b 97 #[.int .i64 s.words,.int .i64 s.stripes,.int .i64 s.wide,.int .i64 s.threads,.int .u64 s.start,.int .i64 s.spins,.int .i64 s.writes,.int .i64 s.fuel,.pointer (some ⟨mb,0,none⟩),.slice none 0 0,.int .i64 0,.int .i64 0,.int .i64 0,.int .u64 0,.int .u64 0,.int .u64 0,.bool false,.int .i64 0,.int .u64 0,.bool false,.int .i64 0,.bool false]*(memH (shOf s) mb (doC (mem0 s) ⟨2,5,0,14,PLk.zero,PLk.zero⟩).2*F))):Sat ω w (mcX b (mcK s L 0) ⟨mb,none,0,[]⟩*F):=by
 have h1:=(h.nil 102 1).to_fact (p:=([]:List Nat).length=(mcK s L 0).thr.length) rfl;unfold mcX;refine h1.perm ?_;show _=(bk b 97 #[.int .i64 s.words,.int .i64 s.stripes,.int .i64 s.wide,.int .i64 s.threads,.int .u64 s.start,.int .i64 s.spins,.int .i64 s.writes,.int .i64 s.fuel,.pointer (some ⟨mb,0,none⟩),.slice none 0 0,.int .i64 0,.int .i64 0,.int .i64 0,.int .u64 0,.int .u64 0,.int .u64 0,.bool false,.int .i64 0,.int .u64 0,.bool false,.int .i64 0,.bool false]*(memH (shOf s) mb (doC (mem0 s) ⟨2,5,0,14,PLk.zero,PLk.zero⟩).2*(fact (([]:List Nat).length=(mcK s L 0).thr.length)*(row 102 1 (.slice none 0 0) 0 []*emp))))*F
 rw[star_emp];ac_rfl
theorem mcX_row {ω w:World}{F:HP}{b:Nat}{s:PSt}{L:List (List (List PIns))}{k:Nat}{D:McD}(h:Sat ω w (mcX b (mcK s L k) D*F)):D.bs.length=k∧Sat ω w (row 102 1 (.slice D.tA k D.tc) k (D.bs.map pV)*(bk b 97 (mcC (mcK s L k) D)*(memH (shOf s) D.mb (mcK s L k).mem*(thAll s D.bs (mcK s L k).thr*F)))):=by
 obtain⟨h1,h2⟩:=mcX_open h;have e:(mcK s L k).thr.length=k:=by simp[mcK]
 rw[e] at h1;refine⟨h1,?_⟩;have h3:Sat ω w (mcRow (mcK s L k) D*(bk b 97 (mcC (mcK s L k) D)*(memH (shOf s) D.mb (mcK s L k).mem*(thAll s D.bs (mcK s L k).thr*F)))):=h2.perm (by show _*(_*(_*(_*_)))=_;ac_rfl)
 unfold mcRow at h3;rw[e] at h3;exact h3
theorem infoThp_:(Tryz.prog.info? 102).map (fun i=>(i.zero,i.size,i.bytes))=some (some (.pointer none),1,8):=by kernel_rfl
end Go.Proofs.YtfodmgaliclhfaaGreatDoor
