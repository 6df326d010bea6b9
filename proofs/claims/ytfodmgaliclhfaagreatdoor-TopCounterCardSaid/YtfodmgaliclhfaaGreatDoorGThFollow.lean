/- Lemmas; no conditions. -/
import Derived.Test.YtfodmgaliclhfaaGreatDoorGAtNext
import Derived.Test.YtfodmgaliclhfaaGreatDoorGMatchN
import Derived.Test.YtfodmgaliclhfaaGreatDoorGBehind
namespace Go.Proofs.YtfodmgaliclhfaaGreatDoor
set_option linter.unusedVariables false
set_option linter.unusedSimpArgs false
set_option maxRecDepth 100000
set_option maxHeartbeats 8000000
open Go.RowKit
def prH (A:Option Addr)(c:Nat)(l:List PIns):HP:=row 87 5 (.slice A l.length c) l.length (l.flatMap insV)
theorem insV_flat (l:List PIns):(l.flatMap insV).length=l.length*5:=by
 induction l with
 |nil=>rfl
 |cons i l ih=>simp only[List.flatMap_cons,List.length_append,insV_len,ih,List.length_cons];omega
theorem insV_one (l:List PIns):∀u∈l.flatMap insV,u.oneCell'=true:=by
 intro u hu;obtain⟨i,hi,hu⟩:=List.mem_flatMap.1 hu;simp[insV] at hu;rcases hu with rfl|rfl|rfl|rfl|rfl<;>rfl
theorem prH_in {ω w:World}{F:HP}{A:Option Addr}{c:Nat}{l:List PIns}(h:Sat ω w (prH A c l*F)):ProgIn w w.heap.size A l:=by
 intro hl;obtain⟨g,e,lg,hc⟩:=Sat.rowAt (l:=l) (f:=insV) h insV_len PIns.none (i:=0) (List.length_pos_iff.2 hl);refine⟨g,0,e,lg,fun k x hx=>?_⟩
 have hk:k<l.length:=(List.getElem?_eq_some_iff.1 hx).1;obtain⟨g2,e2,_,hc2⟩:=Sat.rowAt (l:=l) (f:=insV) h insV_len PIns.none (i:=k) hk;rw[e] at e2;injection e2 with e2
 injection e2 with e2
 subst e2;have hg:l.getD k PIns.none=x:=by rw[gD,hx];rfl
 rw[hg] at hc2;rw[Nat.zero_add];exact⟨hc2 0 (by omega),hc2 1 (by omega),hc2 2 (by omega),hc2 3 (by omega),hc2 4 (by omega)⟩
theorem Sat.fresh {ω w w':World}{F:HP}(h:Sat ω w F)(ho:Only Nob w w'){g:Nat}{t:TypeId}{cs:Array Value}(hg:w.heap.size≤g)(hb:Blk w' g t cs):Sat ω w' (bk g t cs*F):=by
 obtain⟨x,hx,hp⟩:=h.part;have h2:=h.nob ho;refine⟨h2.os,h2.tape,h2.output,_,fun k o hk=>?_,_,x,fun k=>?_,rfl,rfl,hp⟩
 ·by_cases e:k=g
  ·subst e;simp at hk;rw[←hk];exact hb
  ·simp[e] at hk;have h9:=hx k o hk;rw[ho.block k (Array.getElem?_eq_some_iff.1 h9).1 (fun e=>e)]
   exact h9
 ·by_cases e:k=g
  ·right;subst e;cases hk:x k with
   |none=>rfl
   |some o =>
    have:=(Array.getElem?_eq_some_iff.1 (hx _ _ hk)).1
    omega
  ·left;simp[e]
theorem intsNew_sat {ω w w':World}{F:HP}(h:Sat ω w F)(ho:Only Nob w w'){v:Value}{l:List Int}(hn:IntsNew w w' v l)(hl:l.length≤1000):∃A c,v=.slice A l.length c∧Sat ω w' (row 3 1 (.slice A l.length c) l.length (l.map (Value.int .i64))*F):=by
 rcases hn with⟨rfl,rfl⟩|⟨g,rfl,hg,hb⟩
 ·exact⟨none,0,rfl,(h.nob ho).nil _ _⟩
 ·refine⟨_,_,rfl,?_⟩;have h1:=(h.fresh ho hg hb).rowOf (n:=l.length) (size:=1) (by simp[ints]) (by unfold maxLen;omega)
  simpa [ints] using h1
theorem ip_new (ω w:World)(F:HP)(vb:Nat)(l:List PIns)(v:PVw)(A:Option Addr)(c:Nat)(h:Sat ω w (prH A c l*(vwH vb v*F)))(hl:l.length≤40)(hok:okP l=true)(fuel:Nat):
  Calls Tryz.prog 127 #[.agg #[.slice A l.length c],.pointer (some ⟨vb,0,none⟩),.int .i64 fuel] w (RetP ω (prH A c l*F) fun b=>itH b vb (PIt.new l fuel) v):=by
 obtain⟨i0,hi0,hz⟩:=Option.map_eq_some_iff.1 infoIns_;simp only[Prod.mk.injEq] at hz;obtain⟨hz0,hz1,hz2⟩:=hz;have HI:=h_ hi0;have HZ0:=h_ hz0;have HZ1:=h_ hz1;have HZ2:=h_ hz2;obtain⟨n,hn⟩:∃n,l.length=n:=⟨_,rfl⟩;have hm1:(matchP l).length≤1000:=by unfold matchP;rw[if_pos hok,endB_len];omega
 have HON:=h_ (insV_one l);have HN:Hid (Sat ω (w.alloc (.cells #[.slice A n c] 32)) (row 87 5 (.slice none 0 0) 0 []*(bk w.heap.size 32 #[.slice A n c]*(prH A c l*(vwH vb v*F))))):=h_ ((h.new #[.slice A n c] 32).nil _ _);have HRD:Hid (∀o,Reads (w.alloc o) (w.heap.size+1) 5 A n (l.flatMap insV)):=h_ (fun o=>by
  have h1:Sat ω (w.alloc o) (row 87 5 (.slice A n c) n (l.flatMap insV)*(vwH vb v*F)):=hn▸(h.junk o);have h9:=h1.reads;rw[World.size_alloc] at h9;exact h9)
 have hrun:(runP l).2=0:=by unfold okP at hok;simpa using hok
 obtain⟨G,hG⟩:∃G,G=vwH vb v*(prH A c l*F):=⟨_,rfl⟩;have HX:Hid (∀w1 A' c',Sat ω w1 (row 87 5 (.slice A' (0+n) c') (0+n) ([]++l.flatMap insV)*(bk w.heap.size 32 #[.slice A n c]*(prH A c l*(vwH vb v*F))))→Sat ω w1 (bk w.heap.size 32 #[.slice A n c]*(prH A' c' l*G))):=h_ (fun w1 A' c' h1=>by
  rw[Nat.zero_add,List.nil_append] at h1;unfold prH at h1 ⊢;rw[hn] at h1 ⊢;rw[hG];unfold prH;rw[hn];exact h1.perm (by ac_rfl))
 have HRUN:Hid (∀w1 A' c',Sat ω w1 (prH A' c' l*G)→Calls Tryz.prog 152 #[.agg #[.slice A' n c']] w1 fun e w'=>e=.returned (.tuple #[.int .i64 (runP l).1,.int .i64 0])∧Only Nob w1 w'):=h_ (fun w1 A' c' h1=>by
  have h9:=run_any w1.heap.size w1 A' c' l (prH_in h1) (Nat.le_refl _) (by omega)
  rw[hn,hrun] at h9;exact h9)
 have HMA:Hid (∀w1 P A' c',Sat ω w1 (P*(prH A' c' l*G))→Calls Tryz.prog 153 #[.agg #[.slice A' n c']] w1 fun e w'=>∃A9 c9,e=.returned (.slice A9 (matchP l).length c9)∧Sat ω w' (row 3 1 (.slice A9 (matchP l).length c9) (matchP l).length ((matchP l).map (Value.int .i64))*(P*(prH A' c' l*G)))):=h_ (fun w1 P A' c' h1=>by
  have h9:=match_new w1.heap.size w1 A' c' l (prH_in h1.right) (Nat.le_refl _) (by omega)
  rw[hn] at h9;refine h9.mono ?_;rintro e w2 ⟨u,rfl,hu,ho⟩;obtain⟨A9,c9,rfl,h8⟩:=intsNew_sat h1 ho hu hm1;exact⟨A9,c9,rfl,h8⟩)
 have HNEW:Hid (∀w1 P,Sat ω w1 P→Calls Tryz.prog 154 #[] w1 (RetP ω P fun b=>slH b [])):=h_ (fun w1 P h1=>sl_new ω w1 P h1)
 have efl:max (0:Int) (min (fuel:Int) 400)=((min fuel 400:Nat):Int):=by omega
 obtain⟨fl,hfl⟩:∃fl,min fuel 400=fl:=⟨_,rfl⟩;rw[hfl] at efl;obtain⟨ML,hML⟩:∃ML,(matchP l).length=ML:=⟨_,rfl⟩;rw[hML] at HMA;have HFI:Hid (∀w2 P A' c' A9 c9 sb,Sat ω w2 (slH sb []*(row 3 1 (.slice A9 ML c9) ML ((matchP l).map (Value.int .i64))*(P*(prH A' c' l*G))))→Sat ω (w2.alloc (.cells #[.slice A' n c',.pointer (some ⟨vb,0,none⟩),.slice A9 ML c9,.int .i64 0,.int .i64 0,.int .i64 0,.int .u64 0,.int .u64 0,.int .u64 0,.int .u64 0,.int .u64 0,.int .u64 0,.int .u64 0,.int .u64 0,.pointer (some ⟨sb,0,none⟩),.int .i64 0,.int .i64 0,.int .i64 fl,.slice none 0 0] 245)) (itH w2.heap.size vb (PIt.new l fuel) v*(prH A c l*F))):=h_ (fun w2 P A' c' A9 c9 sb h0=>by
  have h1:Sat ω w2 (slH sb []*(row 3 1 (.slice A9 ML c9) ML ((matchP l).map (Value.int .i64))*(prH A' c' l*G))):=(h0.perm (by ac_rfl:_=P*(slH sb []*(row 3 1 (.slice A9 ML c9) ML ((matchP l).map (Value.int .i64))*(prH A' c' l*G))))).right
  have h2:=(h1.nil 346 11).bkNew (t:=245) (cs:=#[.slice A' n c',.pointer (some ⟨vb,0,none⟩),.slice A9 ML c9,.int .i64 0,.int .i64 0,.int .i64 0,.int .u64 0,.int .u64 0,.int .u64 0,.int .u64 0,.int .u64 0,.int .u64 0,.int .u64 0,.int .u64 0,.pointer (some ⟨sb,0,none⟩),.int .i64 0,.int .i64 0,.int .i64 fl,.slice none 0 0]) (ds:=itC (PIt.new l fuel) ⟨A',c',A9,c9,none,0,vb,sb⟩) (by
   unfold itC PIt.new;simp only[hML,hn,hfl];rfl)
  refine itH_to (D:=⟨A',c',A9,c9,none,0,vb,sb⟩) rfl ?_;rw[hG] at h2;unfold itX;unfold prH at h2 ⊢;have e1:(PIt.new l fuel).code=l:=rfl;have e2:(PIt.new l fuel).opens=[]:=rfl;have e3:(PIt.new l fuel).out=[]:=rfl;simp only[e1,e2,e3,List.flatMap_nil,List.length_nil,hML];exact h2.perm (by ac_rfl))
 have hn40:n≤40:=by omega
 have hby:n*40≤140737488355328:=by omega
 rw[hn];generalize l.flatMap insV=xs at *
 go_enter Tryz.func127,Tryz.ntmps127;go_wp2_with (first
  |(at_builtin;refine wpList_append_sat rfl _ _ 30 rfl 87 i0 _ 5 40 Tryz.underlying30 HI.o HZ0.o HZ1.o HZ2.o rfl (by decide) _ 0 _ rfl HN.o _ _ _ _ _ rfl (HRD.o _) HON.o (by unfold maxLen;omega) (by omega) ?_;intro A' c' w2 hs;have hk:=HX.o _ _ _ hs;have kb:=hk.blk;have qf:=kb.frozen;have ql:=kb.lt;have q1:=kb.cell 0;have HY:=h_ (hk.put 0 (.slice A' n c') (cs':=#[.slice A' n c']) rfl))
  |(go_at_call 152;refine(HRUN.o _ _ _ HY.o.right).mono ?_;rintro e w3 ⟨rfl,ho⟩;have hk:=HY.o.nob ho;have kb:=hk.blk;have ql3:=kb.lt;have q3:=kb.c 0;have HY3:=h_ hk))
 refine wp_region_any (by kernel_rfl) ?_
 try (change wpAny _ _ _ _ _ _ _ (World.drew _))
 refine tF 1 ?_ rfl ?_ (tF 4 ?_ rfl ?_ (tF 6 ?_ rfl ?_ (tF 7 ?_ rfl ?_ (tF 8 ?_ rfl ?_ ?_))));all_goals (try (
  intro w;go_simp<;>(try with_reducible rfl)))
 refine rF [0,2] ?_;refine AllReady.cons rfl (fun K hK=>?_) ?_
 ·go_simp;refine hK _ _ ?_;refine oF 2 rfl fun K hK=>?_
  go_simp;refine hK _ _ ?_;refine oF 3 rfl fun K hK=>?_
  go_simp;go_at_call 153;refine(HMA.o _ _ _ _ HY3.o.drew).mono ?_;rintro e w4 ⟨A9,c9,rfl,hs⟩;have kb:=hs.right.blk;have q4:=kb.c 0;have l4:=kb.lt;have HM:=h_ hs;refine hK _ _ ?_;refine oF 5 rfl fun K hK=>?_
  go_simp;go_at_call 154;refine(HNEW.o _ _ HM.o).mono ?_;rintro e w5 ⟨sb,rfl,hs⟩;have kb:=hs.right.right.blk;have q5:=kb.c 0;have l5:=kb.lt;have HS:=h_ hs;refine hK _ _ ?_;refine tF 9 ?_ rfl ?_ ?_;all_goals (try (
   intro w;go_simp<;>(try with_reducible rfl)))
  refine oF 10 rfl fun K hK=>?_
  go_simp;refine hK _ _ ?_;refine tF 11 ?_ rfl ?_ ?_;all_goals (try (
   intro w;go_simp<;>(try with_reducible rfl)))
  refine dF ?_;go_wp2;go_ret;exact⟨_,rfl,HFI.o _ _ _ _ _ _ _ HS.o⟩
 refine nF rfl fun K hK=>?_
 ·go_simp;refine hK _ _ ?_;refine rF [0,3] ?_;refine AllReady.cons rfl (fun K hK=>?_) ?_
  ·go_simp;refine hK _ _ ?_;refine oF 3 rfl fun K hK=>?_
   go_simp;go_at_call 153;refine(HMA.o _ _ _ _ HY3.o.drew).mono ?_;rintro e w4 ⟨A9,c9,rfl,hs⟩;have kb:=hs.right.blk;have q4:=kb.c 0;have l4:=kb.lt;have HM:=h_ hs;refine hK _ _ ?_;refine oF 5 rfl fun K hK=>?_
   go_simp;go_at_call 154;refine(HNEW.o _ _ HM.o).mono ?_;rintro e w5 ⟨sb,rfl,hs⟩;have kb:=hs.right.right.blk;have q5:=kb.c 0;have l5:=kb.lt;have HS:=h_ hs;refine hK _ _ ?_;refine tF 9 ?_ rfl ?_ ?_;all_goals (try (
    intro w;go_simp<;>(try with_reducible rfl)))
   refine oF 10 rfl fun K hK=>?_
   go_simp;refine hK _ _ ?_;refine tF 11 ?_ rfl ?_ ?_;all_goals (try (
    intro w;go_simp<;>(try with_reducible rfl)))
   refine dF ?_;go_wp2;go_ret;exact⟨_,rfl,HFI.o _ _ _ _ _ _ _ HS.o⟩
  refine nF rfl fun K hK=>?_
  ·go_simp;go_at_call 153;refine(HMA.o _ _ _ _ HY3.o.drew).mono ?_;rintro e w4 ⟨A9,c9,rfl,hs⟩;have kb:=hs.right.blk;have q4:=kb.c 0;have l4:=kb.lt;have HM:=h_ hs;refine hK _ _ ?_;refine rF [0,5] ?_;refine AllReady.cons rfl (fun K hK=>?_) ?_
   ·go_simp;refine hK _ _ ?_;refine oF 5 rfl fun K hK=>?_
    go_simp;go_at_call 154;refine(HNEW.o _ _ HM.o).mono ?_;rintro e w5 ⟨sb,rfl,hs⟩;have kb:=hs.right.right.blk;have q5:=kb.c 0;have l5:=kb.lt;have HS:=h_ hs;refine hK _ _ ?_;refine tF 9 ?_ rfl ?_ ?_;all_goals (try (
     intro w;go_simp<;>(try with_reducible rfl)))
    refine oF 10 rfl fun K hK=>?_
    go_simp;refine hK _ _ ?_;refine tF 11 ?_ rfl ?_ ?_;all_goals (try (
     intro w;go_simp<;>(try with_reducible rfl)))
    refine dF ?_;go_wp2;go_ret;exact⟨_,rfl,HFI.o _ _ _ _ _ _ _ HS.o⟩
   refine nF rfl fun K hK=>?_
   ·go_simp;go_at_call 154;refine(HNEW.o _ _ HM.o).mono ?_;rintro e w5 ⟨sb,rfl,hs⟩;have kb:=hs.right.right.blk;have q5:=kb.c 0;have l5:=kb.lt;have HS:=h_ hs;refine hK _ _ ?_;refine oF 0 rfl fun K hK=>?_
    go_simp;refine hK _ _ ?_;refine tF 9 ?_ rfl ?_ ?_;all_goals (try (
     intro w;go_simp<;>(try with_reducible rfl)))
    refine oF 10 rfl fun K hK=>?_
    go_simp;refine hK _ _ ?_;refine tF 11 ?_ rfl ?_ ?_;all_goals (try (
     intro w;go_simp<;>(try with_reducible rfl)))
    refine dF ?_;go_wp2;go_ret;exact⟨_,rfl,HFI.o _ _ _ _ _ _ _ HS.o⟩
structure PSt.kept (s:PSt):Prop where
 w1:32≤s.words
 w2:s.words≤256
 s1:1≤s.stripes
 s2:s.stripes≤16
 d1:1≤s.wide
 d2:s.wide≤16
 t1:1≤s.threads
 t2:s.threads≤4
 st:s.start≤4611686018427387903
 sp:s.spins≤4
 wr:s.writes≤96
 fu:s.fuel≤400
theorem PSt.kept.fit {s:PSt}(h:s.kept):s.fit:=⟨h.s1,h.s2,h.d1,h.d2⟩
def stV (s:PSt):Value:=.agg #[.int .i64 s.words,.int .i64 s.stripes,.int .i64 s.wide,.int .i64 s.threads,.int .u64 s.start,.int .i64 s.spins,.int .i64 s.writes,.int .i64 s.fuel]
theorem held_kept (w:World)(s:PSt)(h:s.kept):Calls Tryz.prog 32 #[stV s] w fun en w'=>en=.returned (stV s)∧Only Nob w w':=by
 have:=h.w1;have:=h.w2;have:=h.s1;have:=h.s2;have:=h.d1;have:=h.d2;have:=h.t1;have:=h.t2;have:=h.st;have:=h.sp;have:=h.wr;have:=h.fu
 exact at_held w _ _ _ _ _ _ _ _ _ _ _ _ _ _ _ _ (by omega) (by omega) (by omega) (by omega) (by omega) (by omega) (by omega) (by omega)
def frC (s:PSt)(me vb db:Nat):Array Value:=#[.int .i64 me,.int .i64 s.words,.int .i64 s.stripes,.int .i64 s.wide,.int .i64 s.threads,.int .u64 s.start,.int .i64 s.spins,.int .i64 s.writes,.int .i64 s.fuel,.pointer none,.slice none 0 0,.int .i64 0,pV vb,pV db,.int .i64 0,.nilIface,.pointer none,.pointer none,.pointer none,.bool false,.int .u64 0,.int .u64 0,.int .i64 0,.int .i64 (-1),.int .i64 0,.bool false]
theorem at_fresh (ω w:World)(F:HP)(h:Sat ω w F)(s:PSt)(hs:s.kept)(me:Nat):
  Calls Tryz.prog 126 #[.int .i64 me,stV s] w fun e w'=>∃b vb db,e=.returned (.pointer (some ⟨b,0,none⟩))∧Sat ω w' (bk b 198 (frC s me vb db)*(rdH db []*(vwH vb (PVw.new s.words s.writes)*F))):=by
 have HH:=h_ (fun w1=>held_kept w1 s hs)
 have HB:Hid (Sat ω (w.alloc (.cells #[.int .i64 s.words,.int .i64 s.stripes,.int .i64 s.wide,.int .i64 s.threads,.int .u64 s.start,.int .i64 s.spins,.int .i64 s.writes,.int .i64 s.fuel] 39)) (bk w.heap.size 39 #[.int .i64 s.words,.int .i64 s.stripes,.int .i64 s.wide,.int .i64 s.threads,.int .u64 s.start,.int .i64 s.spins,.int .i64 s.writes,.int .i64 s.fuel]*F)):=h_ (h.new _ _);have HV:Hid (∀w1 P,Sat ω w1 P→Calls Tryz.prog 150 #[.int .i64 s.words,.int .i64 s.writes] w1 (RetP ω P fun b=>vwH b (PVw.new s.words s.writes))):=h_ (fun w1 P h1=>vw_new ω w1 P h1 s.words s.writes)
 have HR:Hid (∀w1 P,Sat ω w1 P→Calls Tryz.prog 151 #[.int .i64 16] w1 (RetP ω P fun b=>rdH b [])):=h_ (fun w1 P h1=>rd_new ω w1 P h1)
 unfold stV at HH ⊢;clear h hs;go_enter Tryz.func126,Tryz.ntmps126;go_wp2_with (go_at_call 32;refine(HH.o _).mono ?_;rintro e w1 ⟨rfl,ho⟩;have kh:=HB.o.nob ho;have kb:=kh.blk;have kf:=kb.frozen;have kl:=kb.lt;have m0:=kb.cell 0;have m1:=kb.cell 1;have m2:=kb.cell 2;have m3:=kb.cell 3;have m4:=kb.cell 4;have m5:=kb.cell 5;have m6:=kb.cell 6;have m7:=kb.cell 7;have HK:=h_ kh;have KB1:=h_ kb;clear ho kh kb);have HC:Hid (Sat ω ((((((((w1.setCell ⟨w.heap.size,0,none⟩ (.int .i64 s.words)).setCell ⟨w.heap.size,1,none⟩ (.int .i64 s.stripes)).setCell ⟨w.heap.size,2,none⟩ (.int .i64 s.wide)).setCell ⟨w.heap.size,3,none⟩ (.int .i64 s.threads)).setCell ⟨w.heap.size,4,none⟩ (.int .u64 s.start)).setCell ⟨w.heap.size,5,none⟩ (.int .i64 s.spins)).setCell ⟨w.heap.size,6,none⟩ (.int .i64 s.writes)).setCell ⟨w.heap.size,7,none⟩ (.int .i64 s.fuel)) (bk w.heap.size 39 #[.int .i64 s.words,.int .i64 s.stripes,.int .i64 s.wide,.int .i64 s.threads,.int .u64 s.start,.int .i64 s.spins,.int .i64 s.writes,.int .i64 s.fuel]*F)):=h_ ((((((((HK.o.put 0 _ rfl).put 1 _ rfl).put 2 _ rfl).put 3 _ rfl).put 4 _ rfl).put 5 _ rfl).put 6 _ rfl).put 7 _ rfl);clear m0 m1 m2 m3 m4 m5 m6 m7 kl kf HB HH KB1 HK;generalize ((((((((w1.setCell ⟨w.heap.size,0,none⟩ (.int .i64 s.words)).setCell ⟨w.heap.size,1,none⟩ (.int .i64 s.stripes)).setCell ⟨w.heap.size,2,none⟩ (.int .i64 s.wide)).setCell ⟨w.heap.size,3,none⟩ (.int .i64 s.threads)).setCell ⟨w.heap.size,4,none⟩ (.int .u64 s.start)).setCell ⟨w.heap.size,5,none⟩ (.int .i64 s.spins)).setCell ⟨w.heap.size,6,none⟩ (.int .i64 s.writes)).setCell ⟨w.heap.size,7,none⟩ (.int .i64 s.fuel))=wC at *
 clear w1;generalize w.heap.size=N at *
 clear w;have HS0:Blk wC.drew N 39 #[.int .i64 s.words,.int .i64 s.stripes,.int .i64 s.wide,.int .i64 s.threads,.int .u64 s.start,.int .i64 s.spins,.int .i64 s.writes,.int .i64 s.fuel]:=(HC.o.drewN 1).blk;refine gN (fun w1=>Blk w1 N 39 #[.int .i64 s.words,.int .i64 s.stripes,.int .i64 s.wide,.int .i64 s.threads,.int .u64 s.start,.int .i64 s.spins,.int .i64 s.writes,.int .i64 s.fuel]) HS0 fun hh0=>?_
 refine tH 0 ?_ rfl ?_ (tH 1 ?_ rfl ?_ (tH 2 ?_ rfl ?_ (tH 3 ?_ rfl ?_ (tH 4 ?_ rfl ?_ (tH 5 ?_ rfl ?_ (tH 6 ?_ rfl ?_ ?_))))));all_goals (try (
  intro w hSw;have kf:=hSw.frozen;have kl:=hSw.lt;have m0:=hSw.cell 0;have m1:=hSw.cell 1;have m2:=hSw.cell 2;have m3:=hSw.cell 3;have m4:=hSw.cell 4;have m5:=hSw.cell 5;have m6:=hSw.cell 6;have m7:=hSw.cell 7;try simp only[sP]
  go_simp<;>(try with_reducible rfl)))
 try simp only[sP]
 refine oH 7 rfl fun K hK=>?_
 go_simp;go_at_call 150;refine(HV.o _ _ (HC.o.drewN _)).mono ?_;rintro e wA ⟨vb,rfl,hs⟩;have HX:=h_ hs;clear hs;first|(refine hK.q ?_ fun hh1=>?_)|(go_wp2_with fail;refine hK.q ?_ fun hh1=>?_)
 ·exact HX.o.right.blk
 clear hK K hh0;try simp only[sP]
 refine oH 8 rfl fun K hK=>?_
 go_simp;go_at_call 151;refine(HR.o _ _ HX.o).mono ?_;rintro e wB ⟨db,rfl,hs⟩;have HY:=h_ hs;clear hs;first|(refine hK.q ?_ fun hh2=>?_)|(go_wp2_with fail;refine hK.q ?_ fun hh2=>?_)
 ·exact HY.o.right.right.blk
 clear hK K hh1;try simp only[sP]
 refine tH 9 ?_ rfl ?_ ?_;all_goals (try (
  intro w hSw;have kf:=hSw.frozen;have kl:=hSw.lt;have m0:=hSw.cell 0;have m1:=hSw.cell 1;have m2:=hSw.cell 2;have m3:=hSw.cell 3;have m4:=hSw.cell 4;have m5:=hSw.cell 5;have m6:=hSw.cell 6;have m7:=hSw.cell 7;go_simp<;>(try with_reducible rfl)))
 try simp only[sP]
 refine oH 10 rfl fun K hK=>?_
 go_simp;have HQ:=h_ (HY.o.new (frC s me vb db) 198);first|(refine hK.q ?_ fun hh3=>?_)|(go_wp2_with fail;refine hK.q ?_ fun hh3=>?_)
 ·exact HQ.o.right.right.right.blk
 clear hK K hh2;try simp only[sP]
 refine tH 11 ?_ rfl ?_ ?_;all_goals (try (
  intro w hSw;have kf:=hSw.frozen;have kl:=hSw.lt;have m0:=hSw.cell 0;have m1:=hSw.cell 1;have m2:=hSw.cell 2;have m3:=hSw.cell 3;have m4:=hSw.cell 4;have m5:=hSw.cell 5;have m6:=hSw.cell 6;have m7:=hSw.cell 7;go_simp<;>(try with_reducible rfl)))
 try simp only[sP]
 refine dN ?_;go_wp2;go_ret;refine⟨_,rfl,vb,db,?_⟩;have hq:=HQ.o;exact(hq.perm (Q:=bk N 39 _*(bk _ 198 _*(rdH db []*(vwH vb (PVw.new s.words s.writes)*F)))) (by ac_rfl)).right
def NewS (n b:Nat)(s:PSt)(me vb db:Nat)(u:Value)(w:World):Prop:=Blk w n 32 #[u]∧∃v,Blk w b 198 ((frC s me vb db).setIfInBounds 9 v)
theorem at_make (ω w:World)(F:HP)(s:PSt)(hs:s.kept)(me:Nat)(A:Option Addr)(c:Nat)(l:List PIns)(h:Sat ω w (prH A c l*F))(hl:l.length≤40)(hok:okP l=true):
  Calls Tryz.prog 91 #[.int .i64 me,stV s,.agg #[.slice A l.length c]] w (RetP ω (prH A c l*F) fun b=>atH b s (PAt.new me s l)):=by
 have HF:Hid (∀w1 P,Sat ω w1 P→Calls Tryz.prog 126 #[.int .i64 me,stV s] w1 fun e w'=>∃b vb db,e=.returned (.pointer (some ⟨b,0,none⟩))∧Sat ω w' (bk b 198 (frC s me vb db)*(rdH db []*(vwH vb (PVw.new s.words s.writes)*P)))):=h_ (fun w1 P h1=>at_fresh ω w1 P h1 s hs me)
 have HI:Hid (∀w1 n n' b vb db,Sat ω w1 (bk b 198 (frC s me vb db)*(rdH db []*(vwH vb (PVw.new s.words s.writes)*(bk n 32 #[.slice A l.length c]*(bk n' 39 #[.int .i64 s.words,.int .i64 s.stripes,.int .i64 s.wide,.int .i64 s.threads,.int .u64 s.start,.int .i64 s.spins,.int .i64 s.writes,.int .i64 s.fuel]*(prH A c l*F))))))→Calls Tryz.prog 127 #[.agg #[.slice A l.length c],.pointer (some ⟨vb,0,none⟩),.int .i64 s.fuel] w1 fun e w'=>∃rb,e=.returned (.pointer (some ⟨rb,0,none⟩))∧Blk w' n 32 #[.slice A l.length c]∧Blk w' b 198 (frC s me vb db)∧(Blk (w'.setCell ⟨b,9,none⟩ (pV rb)) n 32 #[.slice A l.length c]∧Blk (w'.setCell ⟨b,9,none⟩ (pV rb)) b 198 ((frC s me vb db).setIfInBounds 9 (pV rb)))∧Sat ω (w'.setCell ⟨b,9,none⟩ (pV rb)) (atH b s (PAt.new me s l)*(prH A c l*F))):=h_ (fun w1 n n' b vb db h1=>by
  have h2:Sat ω w1 (prH A c l*(vwH vb (PVw.new s.words s.writes)*(bk b 198 (frC s me vb db)*(rdH db []*(bk n 32 #[.slice A l.length c]*(bk n' 39 #[.int .i64 s.words,.int .i64 s.stripes,.int .i64 s.wide,.int .i64 s.threads,.int .u64 s.start,.int .i64 s.spins,.int .i64 s.writes,.int .i64 s.fuel]*F)))))):=h1.perm (by ac_rfl)
  refine(ip_new ω w1 _ vb l (PVw.new s.words s.writes) A c h2 hl hok s.fuel).mono ?_;rintro e w2 ⟨rb,rfl,h3⟩;have h4:Sat ω w2 (bk b 198 (frC s me vb db)*(bk n 32 #[.slice A l.length c]*(itH rb vb (PIt.new l s.fuel) (PVw.new s.words s.writes)*(prH A c l*(rdH db []*(bk n' 39 #[.int .i64 s.words,.int .i64 s.stripes,.int .i64 s.wide,.int .i64 s.threads,.int .u64 s.start,.int .i64 s.spins,.int .i64 s.writes,.int .i64 s.fuel]*F)))))):=h3.perm (by ac_rfl)
  have h5:=h4.put 9 (pV rb) rfl;refine⟨rb,rfl,h4.right.blk,h4.blk,⟨h5.right.blk,h5.blk⟩,?_⟩;have h6:=(h5.perm (Q:=bk n 32 #[.slice A l.length c]*(bk n' 39 #[.int .i64 s.words,.int .i64 s.stripes,.int .i64 s.wide,.int .i64 s.threads,.int .u64 s.start,.int .i64 s.spins,.int .i64 s.writes,.int .i64 s.fuel]*(bk b 198 _*(itH rb vb (PIt.new l s.fuel) (PVw.new s.words s.writes)*(rdH db []*(prH A c l*F)))))) (by ac_rfl)).right.right
  refine atH_to (D:=⟨rb,vb,db,.nilIface,.pointer none,.pointer none,.pointer none⟩) ?_;have h7:=Sat.to_fact (p:=(Value.pointer none=Value.pointer none)) rfl h6;exact h7.perm (Q:=(bk b 198 _*(itH rb vb (PIt.new l s.fuel) (PVw.new s.words s.writes)*(rdH db []*fact _)))*(prH A c l*F)) (by ac_rfl))
 have HB:Hid (Sat ω ((w.alloc (.cells #[.int .i64 s.words,.int .i64 s.stripes,.int .i64 s.wide,.int .i64 s.threads,.int .u64 s.start,.int .i64 s.spins,.int .i64 s.writes,.int .i64 s.fuel] 39)).alloc (.cells #[.slice A l.length c] 32)) (bk (w.heap.size+1) 32 #[.slice A l.length c]*(bk w.heap.size 39 #[.int .i64 s.words,.int .i64 s.stripes,.int .i64 s.wide,.int .i64 s.threads,.int .u64 s.start,.int .i64 s.spins,.int .i64 s.writes,.int .i64 s.fuel]*(prH A c l*F)))):=by
  have:=(h.new #[.int .i64 s.words,.int .i64 s.stripes,.int .i64 s.wide,.int .i64 s.threads,.int .u64 s.start,.int .i64 s.spins,.int .i64 s.writes,.int .i64 s.fuel] 39).new #[.slice A l.length c] 32
  rw[World.size_alloc] at this;exact h_ this
 unfold stV at HF ⊢;go_enter Tryz.func91,Tryz.ntmps91;have kh:=HB.o;have ks:=kh.right.blk;have kf:=ks.frozen;have kl:=ks.lt;have m0:=ks.cell 0;have m1:=ks.cell 1;have m2:=ks.cell 2;have m3:=ks.cell 3;have m4:=ks.cell 4;have m5:=ks.cell 5;have m6:=ks.cell 6;have m7:=ks.cell 7;have kn:w.heap.size<w.heap.size+1:=(by omega);have kn2:w.heap.size<w.heap.size+1+1:=(by omega)
 go_wp2_with (go_at_call 126;refine(HF.o _ _ HB.o).mono ?_;rintro e w1 ⟨b,vb,db,rfl,hq⟩;have HQ:=h_ hq);have HS0:NewS (w.heap.size+1) b s me vb db (.slice A l.length c) w1.drew:=⟨(HQ.o.drewN 1).right.right.right.blk,.pointer none,(HQ.o.drewN 1).blk⟩;refine gN (NewS (w.heap.size+1) b s me vb db (.slice A l.length c)) HS0 fun hh0=>?_
 refine tH 0 ?_ rfl ?_ (tH 1 ?_ rfl ?_ (tH 2 ?_ rfl ?_ (tH 3 ?_ rfl ?_ (tH 4 ?_ rfl ?_ (tH 5 ?_ rfl ?_ (tH 6 ?_ rfl ?_ (tH 7 ?_ rfl ?_ (tH 8 ?_ rfl ?_ (tH 9 ?_ rfl ?_ (tH 10 ?_ rfl ?_ ?_))))))))));all_goals (try (
  intro w hSw;obtain⟨hS1,vv,hS2⟩:=hSw;have kf:=hS1.frozen;have kl:=hS1.lt;have kc:=hS1.cell 0;have jf:=hS2.frozen;have jl:=hS2.lt;have j8:=hS2.c 8;have j12:=hS2.c 12;try simp only[sP]
  go_simp<;>(try with_reducible rfl)))
 try simp only[sP]
 refine oH 11 rfl fun K hK=>?_
 go_simp;go_at_call 127;refine(HI.o _ _ _ _ _ _ (HQ.o.drewN _)).mono ?_;rintro e wA ⟨rb,rfl,b1,b2,b3,hs⟩;have HZ:=h_ hs;have HB1:=h_ b1;have HB2:=h_ b2;have HB3:=h_ b3;(try go_wp2_with fail);refine hK.q ?_ fun hh1=>?_
 ·exact⟨HB1.o,.pointer none,HB2.o⟩
 try simp only[sP]
 refine tH 12 ?_ rfl ?_ (tH 13 ?_ rfl ?_ ?_);all_goals (try (
  intro w hSw;obtain⟨hS1,vv,hS2⟩:=hSw;have kf:=hS1.frozen;have kl:=hS1.lt;have kc:=hS1.cell 0;have jf:=hS2.frozen;have jl:=hS2.lt;have j8:=hS2.c 8;have j12:=hS2.c 12;try simp only[sP]
  go_simp<;>(try with_reducible rfl)))
 try simp only[sP]
 refine oH 14 rfl fun K hK=>?_
 have lb:=HB2.o.lt;have fb:=HB2.o.frozen;have db9:=HB2.o.cell 9;go_simp;(try go_wp2_with fail);refine hK.q ?_ fun hh2=>?_
 ·exact⟨HB3.o.1,_,HB3.o.2⟩
 try simp only[sP]
 refine dN ?_;go_wp2;go_ret;exact⟨_,rfl,HZ.o⟩
structure ThD where
 jA:Option Addr
 jc:Nat
 js:List (Option Addr×Nat)
 nb:Nat
 pv:Value
 ps:List (Value×Value)
 rv:Value
 lb:Nat
def jbV (js:List (Option Addr×Nat))(ls:List (List PIns)):List Value:=List.zipWith (fun a l=>Value.slice a.1 l.length a.2) js ls
def jbAll:List (Option Addr×Nat)→List (List PIns)→HP
 |a::js,l::ls=>prH a.1 a.2 l*jbAll js ls
 |_,_=>emp
def nowV (nb:Nat):Option PAt→Value
 |none=>.pointer none
 |some _=>pV nb
def nowH (s:PSt)(nb:Nat):Option PAt→HP
 |none=>emp
 |some x=>atH nb s x
def toV (p:Value×Value)(t:PTo):List Value:=[.int .i64 t.thread,.int .i64 t.job,.int .i64 t.try_,.bool false,.int .i64 t.kind,.int .i64 t.err,.int .u64 t.begin,.int .u64 t.stamp,.int .i64 t.born,.int .i64 t.ended,p.1,p.2,.slice none 0 0,.string ⟨t.slate.toArray⟩]
def toH (p:Value×Value)(t:PTo):HP:=row 54 2 p.1 t.reads.length (vS t.reads)*row 54 2 p.2 t.cells.length (vS t.cells)
def toVs:List (Value×Value)→List PTo→List Value
 |p::ps,t::ts=>toV p t++toVs ps ts
 |_,_=>[]
def toAll:List (Value×Value)→List PTo→HP
 |p::ps,t::ts=>toH p t*toAll ps ts
 |_,_=>emp
def reV (r:PRe):List Value:=[.int .i64 r.kind,.int .i64 r.err,.string ⟨r.slate.toArray⟩,.int .u64 r.stamp]
def thC (s:PSt)(t:PTh)(D:ThD)(j:Int):Array Value:=#[.int .i64 t.me,.int .i64 s.words,.int .i64 s.stripes,.int .i64 s.wide,.int .i64 s.threads,.int .u64 s.start,.int .i64 s.spins,.int .i64 s.writes,.int .i64 s.fuel,.slice D.jA t.jobs.length D.jc,.int .i64 j,.int .i64 t.state,.bool false,.slice none 0 0,.int .i64 t.tries,.int .i64 t.conflicts,nowV D.nb t.now,.int .i64 t.born,.bool t.alarmed,D.pv,D.rv,pV D.lb,.slice none 0 0,.int .i64 t.by_,.int .u64 t.since,.bool t.yielding,.int .i64 t.pauses]
def thJ (ls:List (List PIns))(D:ThD):HP:=fact (D.js.length=ls.length)*(row 32 1 (.slice D.jA ls.length D.jc) ls.length (jbV D.js ls)*jbAll D.js ls)
def thT (t:PTh)(D:ThD):HP:=thJ t.jobs D*((fact (D.ps.length=t.past.length)*(row 52 14 D.pv t.past.length (toVs D.ps t.past)*toAll D.ps t.past))*(row 66 4 D.rv t.results.length (t.results.flatMap reV)*bk D.lb 188 #[.slice none 0 0]))
def thX (b:Nat)(s:PSt)(t:PTh)(D:ThD)(j:Int):HP:=bk b 138 (thC s t D j)*(nowH s D.nb t.now*thT t D)
def thH (b:Nat)(s:PSt)(t:PTh):HP:=ex fun D=>thX b s t D t.job
theorem thH_of {ω w:World}{F:HP}{b:Nat}{s:PSt}{t:PTh}(h:Sat ω w (thH b s t*F)):∃D,Sat ω w (thX b s t D t.job*F):=h.of_ex
theorem thH_to {ω w:World}{F:HP}{b:Nat}{s:PSt}{t:PTh}{D:ThD}(h:Sat ω w (thX b s t D t.job*F)):Sat ω w (thH b s t*F):=Sat.to_ex D h
theorem thX_blk {ω w:World}{F:HP}{b:Nat}{s:PSt}{t:PTh}{D:ThD}{j:Int}(h:Sat ω w (thX b s t D j*F)):Blk w b 138 (thC s t D j):=h.assoc.blk
theorem jbAll_at:∀(js:List (Option Addr×Nat)) (ls:List (List PIns)),js.length=ls.length→∀i (hi:i<ls.length),∃A c R,(jbV js ls)[i]?=some (.slice A (ls.getD i []).length c)∧jbAll js ls=prH A c (ls.getD i [])*R
 | [],[],_,i,hi=>by simp at hi
 |a::js,l::ls,h,0,_=>⟨a.1,a.2,jbAll js ls,by simp[jbV],by simp[jbAll]⟩
 |a::js,l::ls,h,i+1,hi=>by
  obtain⟨A,c,R,h1,h2⟩:=jbAll_at js ls (by simpa using h) i (by simpa using hi)
  refine⟨A,c,prH a.1 a.2 l*R,by simpa [jbV] using h1,?_⟩
  show prH a.1 a.2 l*jbAll js ls=_
  rw[h2];simp only[List.getD_cons_succ];ac_rfl
theorem Sat.rowCell {ω w:World}{F:HP}{e:TypeId}{n c:Nat}{A:Option Addr}{xs:List Value}(h:Sat ω w (row e 1 (.slice A n c) n xs*F)){i:Nat}{v:Value}(hv:xs[i]?=some v):
  ∃g,A=some ⟨g,0,none⟩∧g<w.heap.size∧w.cell? ⟨g,i,none⟩=some v:=by
 rcases h.cases with⟨h1,h2,h3,_⟩|⟨g,cap,cur,h2,h3,h4,h5,h6,h7,h8⟩
 ·subst h3;simp at hv
 ·injection h2 with h2 _ _
  refine⟨g,h2,h8.blk.lt,?_⟩;have hi:i<n:=by
   have:=(List.getElem?_eq_some_iff.1 hv).1
   omega
  rw[h8.blk.cell,←hv,←h6,List.getElem?_take,if_pos (by omega)]
  simp
theorem thT_row {ω w:World}{F P:HP}{t:PTh}{D:ThD}(h:Sat ω w (P*(thT t D*F)))(hi:t.job<t.jobs.length):∃g A c R,D.jA=some ⟨g,0,none⟩∧(jbV D.js t.jobs)[t.job]?=some (.slice A (t.jobs.getD t.job []).length c)∧thT t D=prH A c (t.jobs.getD t.job [])*R:=by
 have h1:=h.right;unfold thT thJ at h1;obtain⟨h2,h3⟩:=h1.assoc.assoc.of_fact;obtain⟨A,c,R,h4,h5⟩:=jbAll_at D.js t.jobs h2 t.job hi;obtain⟨g,h6,h7,h8⟩:=h3.assoc.rowCell h4;refine⟨g,A,c,fact (D.js.length=t.jobs.length)*(row 32 1 (.slice D.jA t.jobs.length D.jc) t.jobs.length (jbV D.js t.jobs)*R)*((fact (D.ps.length=t.past.length)*(row 52 14 D.pv t.past.length (toVs D.ps t.past)*toAll D.ps t.past))*(row 66 4 D.rv t.results.length (t.results.flatMap reV)*bk D.lb 188 #[.slice none 0 0])),h6,h4,?_⟩;unfold thT thJ;rw[h5];ac_rfl
theorem thT_cell {ω w:World}{F P:HP}{t:PTh}{D:ThD}(h:Sat ω w (P*(thT t D*F))){g:Nat}{v:Value}(hg:D.jA=some ⟨g,0,none⟩)(hv:(jbV D.js t.jobs)[t.job]?=some v):g<w.heap.size∧w.cell? ⟨g,t.job,none⟩=some v:=by
 have h1:=h.right;unfold thT thJ at h1;obtain⟨h2,h3⟩:=h1.assoc.assoc.of_fact;obtain⟨g',h6,h7,h8⟩:=h3.assoc.rowCell hv;rw[hg] at h6;injection h6 with h6
 injection h6 with h6
 subst h6;exact⟨h7,h8⟩
structure ThS (b:Nat) (CS:Array Value) (g J:Nat) (v:Value) (w:World):Prop where
 blk:∃u,Blk w b 138 (CS.setIfInBounds 16 u)
 row:w.cell? ⟨g,J,none⟩=some v
 lt:g<w.heap.size
def PTh.fresh (t:PTh):PTh:={ t with born:=0,alarmed:=false }
structure PTh.fit (t:PTh):Prop where
 job:t.job≤t.jobs.length
 jobs:t.jobs.length≤6
 prog:∀p∈t.jobs,p.length≤40∧okP p=true
theorem th_again (ω w:World)(F:HP)(b:Nat)(s:PSt)(t:PTh)(D:ThD)(h:Sat ω w (thX b s t D t.job*F))(hs:s.kept)(hf:t.fit):
  Calls Tryz.prog 60 #[.pointer (some ⟨b,0,none⟩)] w (Rets ω F (.tuple #[]) (thH b s (t.again s))):=by
 have hA:Sat ω w (bk b 138 (thC s t D t.job)*(thT t D*F)):=by
  have h1:Sat ω w (nowH s D.nb t.now*(bk b 138 (thC s t D t.job)*(thT t D*F))):=h.perm (by unfold thX;ac_rfl)
  exact h1.right
 have hb:=hA.blk;have HA:Hid (Sat ω ((w.setCell ⟨b,17,none⟩ (.int .i64 0)).setCell ⟨b,18,none⟩ (.bool false)) (bk b 138 (thC s t.fresh D t.job)*(thT t D*F))):=h_ ((hA.put 17 (.int .i64 0) (cs':=thC s { t with born:=0 } D t.job) rfl).put 18 (.bool false) rfl)
 have m17:w.cell? ⟨b,17,none⟩=some (.int .i64 t.born):=hb.cell 17;have m18:w.cell? ⟨b,18,none⟩=some (.bool t.alarmed):=hb.cell 18;have mf:=hb.frozen;have ml:=hb.lt;by_cases hj:t.job=t.jobs.length
 ·have HZ:Hid (∀w1,Sat ω w1 (bk b 138 (thC s t.fresh D t.job)*(thT t D*F))→Sat ω ((w1.setCell ⟨b,11,none⟩ (.int .i64 6)).setCell ⟨b,16,none⟩ (.pointer none)) (thH b s (t.again s)*F)):=h_ (fun w1 h1=>by
   refine thH_to (D:=D) ?_;have h2:=((h1.put 11 (.int .i64 6) (cs':=thC s { t.fresh with state:=6 } D t.job) rfl).put 16 (.pointer none) (cs':=thC s { t.fresh with state:=6,now:=none } D t.job) rfl)
   have e:t.again s={ t.fresh with state:=6,now:=none }:=by
    unfold PTh.again;simp only;rw[if_pos hj];rfl
   rw[e];exact h2.perm (Q:=(bk b 138 (thC s { t.fresh with state:=6,now:=none } D t.job)*(emp*thT t D))*F) (by rw[emp_star];ac_rfl))
  go_enter Tryz.func60,Tryz.ntmps60;go_wp2;generalize ((w.setCell ⟨b,17,none⟩ (.int .i64 0)).setCell ⟨b,18,none⟩ (.bool false))=wC at *
  have HS0:Blk wC.drew b 138 (thC s t.fresh D t.job):=(HA.o.drewN 1).blk;refine gN (fun w1=>Blk w1 b 138 (thC s t.fresh D t.job)) HS0 fun hh0=>?_
  refine tH 0 ?_ rfl ?_ (tH 1 ?_ rfl ?_ (tH 2 ?_ rfl ?_ (tH 3 ?_ rfl ?_ (tH 4 ?_ rfl ?_ (tH 5 ?_ rfl ?_ (tH 6 ?_ rfl ?_ (tH 7 ?_ rfl ?_ (tH 8 ?_ rfl ?_ (tH 9 ?_ rfl ?_ (tH 10 ?_ rfl ?_ ?_))))))))));all_goals (try (
   intro w hSw;have kf:=hSw.frozen;have kl:=hSw.lt;have k9:w.cell? ⟨b,9,none⟩=some (.slice D.jA t.jobs.length D.jc):=hSw.cell 9;have k10:w.cell? ⟨b,10,none⟩=some (.int .i64 t.job):=hSw.cell 10;try simp only[sP]
   go_simp<;>(try with_reducible rfl)))
  try simp only[sP]
  refine dN ?_;have hb:Blk wC.drew b 138 (thC s t.fresh D t.job):=(HA.o.drewN 1).blk;have HD:Hid (Sat ω ((wC.drew.setCell ⟨b,11,none⟩ (.int .i64 6)).setCell ⟨b,16,none⟩ (.pointer none)) (thH b s (t.again s)*F)):=h_ (HZ.o _ (HA.o.drewN 1));have kf:=hb.frozen;have kl:=hb.lt;have k11:wC.drew.cell? ⟨b,11,none⟩=some (.int .i64 t.state):=hb.cell 11;obtain⟨u16,k16⟩:∃u,wC.drew.cell? ⟨b,16,none⟩=some u:=⟨_,hb.cell 16⟩;obtain⟨v16,k16c⟩:∃u,wC.cell? ⟨b,16,none⟩=some u:=⟨_,HA.o.blk.cell 16⟩;have kfc:=HA.o.blk.frozen;have klc:=HA.o.blk.lt;go_wp2;first|(go_ret;exact⟨rfl,HD.o⟩)|exact bodyPost_end (results_none rfl _ _ _) rfl ⟨rfl,HD.o⟩
 ·have hlt:t.job<t.jobs.length:=Nat.lt_of_le_of_ne hf.job hj;obtain⟨g,A,c,R,hg,hv,hT⟩:=thT_row hA hlt;obtain⟨P,hP⟩:∃P,t.jobs.getD t.job []=P:=⟨_,rfl⟩;rw[hP] at hv hT;have hp:P.length≤40∧okP P=true:=by
   rw[←hP];refine hf.prog _ ?_;rw[gD,List.getElem?_eq_getElem hlt];exact List.getElem_mem hlt
  have hTS:∀(w1:World) (G:HP),Sat ω w1 (bk b 138 (thC s t.fresh D t.job)*(G*(thT t D*F)))→ThS b (thC s t.fresh D t.job) g t.job (.slice A P.length c) w1:=fun w1 G h1=>by
   have h2:=thT_cell (P:=bk b 138 (thC s t.fresh D t.job)*G) (h1.perm (star_assoc _ _ _).symm) hg hv;exact⟨⟨nowV D.nb t.now,h1.blk⟩,h2.2,h2.1⟩
  have HM:Hid (∀w1,Sat ω w1 (bk b 138 (thC s t.fresh D t.job)*(thT t D*F))→Calls Tryz.prog 91 #[.int .i64 t.me,stV s,.agg #[.slice A P.length c]] w1 fun e w'=>∃nb,e=.returned (.pointer (some ⟨nb,0,none⟩))∧Blk w' b 138 (thC s t.fresh D t.job)∧ThS b (thC s t.fresh D t.job) g t.job (.slice A P.length c) w'∧ThS b (thC s t.fresh D t.job) g t.job (.slice A P.length c) (w'.setCell ⟨b,16,none⟩ (pV nb))∧Blk (w'.setCell ⟨b,16,none⟩ (pV nb)) b 138 (thC s { t.fresh with now:=some (PAt.new t.me s P) } { D with nb:=nb } t.job)∧Sat ω ((w'.setCell ⟨b,16,none⟩ (pV nb)).setCell ⟨b,11,none⟩ (.int .i64 1)) (thH b s (t.again s)*F)):=h_ (fun w1 h1=>by
   have h2:Sat ω w1 (prH A c P*(bk b 138 (thC s t.fresh D t.job)*(R*F))):=h1.perm (by rw[hT];ac_rfl)
   refine(at_make ω w1 _ s hs t.me A c P h2 hp.1 hp.2).mono ?_;rintro e w2 ⟨nb,rfl,h3⟩;have h3:Sat ω w2 (atH nb s (PAt.new t.me s P)*(prH A c P*(bk b 138 (thC s t.fresh D t.job)*(R*F)))):=h3;have h4:Sat ω w2 (bk b 138 (thC s t.fresh D t.job)*(atH nb s (PAt.new t.me s P)*(thT t D*F))):=h3.perm (by rw[hT];ac_rfl)
   have h5:=h4.put 16 (pV nb) (cs':=thC s { t.fresh with now:=some (PAt.new t.me s P) } { D with nb:=nb } t.job) rfl
   have h6:=thT_cell (P:=bk b 138 _*atH nb s (PAt.new t.me s P)) (h5.perm (star_assoc _ _ _).symm) hg hv;refine⟨nb,rfl,h4.blk,hTS w2 _ h4,⟨⟨pV nb,h5.blk⟩,h6.2,h6.1⟩,h5.blk,?_⟩;have h7:=h5.put 11 (.int .i64 1) (cs':=thC s { t.fresh with now:=some (PAt.new t.me s P),state:=1 } { D with nb:=nb } t.job) rfl
   refine thH_to (D:={ D with nb:=nb }) ?_
   have e:t.again s={ t.fresh with now:=some (PAt.new t.me s P),state:=1 }:=by
    unfold PTh.again;simp only;rw[if_neg hj,hP];rfl
   rw[e];exact h7.perm (Q:=(bk b 138 (thC s { t.fresh with now:=some (PAt.new t.me s P),state:=1 } { D with nb:=nb } t.job)*(atH nb s (PAt.new t.me s P)*thT t D))*F) (by ac_rfl))
  have HTS:Hid (∀w1,Sat ω w1 (bk b 138 (thC s t.fresh D t.job)*(thT t D*F))→ThS b (thC s t.fresh D t.job) g t.job (.slice A P.length c) w1):=h_ (fun w1 h1=>hTS w1 emp (h1.perm (by rw[emp_star])))
  have HG:=h_ hg;unfold stV at HM;go_enter Tryz.func60,Tryz.ntmps60;go_wp2;generalize ((w.setCell ⟨b,17,none⟩ (.int .i64 0)).setCell ⟨b,18,none⟩ (.bool false))=wC at *
  have HS0:Blk wC.drew b 138 (thC s t.fresh D t.job):=(HA.o.drewN 1).blk;refine gN (fun w1=>Blk w1 b 138 (thC s t.fresh D t.job)) HS0 fun hh0=>?_
  refine tH 0 ?_ rfl ?_ (tH 1 ?_ rfl ?_ (tH 2 ?_ rfl ?_ (tH 3 ?_ rfl ?_ (tH 4 ?_ rfl ?_ (tH 5 ?_ rfl ?_ (tH 6 ?_ rfl ?_ (tH 7 ?_ rfl ?_ (tH 8 ?_ rfl ?_ (tH 9 ?_ rfl ?_ (tH 10 ?_ rfl ?_ ?_))))))))));all_goals (try (
   intro w hSw;have kf:=hSw.frozen;have kl:=hSw.lt;have k9:w.cell? ⟨b,9,none⟩=some (.slice D.jA t.jobs.length D.jc):=hSw.cell 9;have k10:w.cell? ⟨b,10,none⟩=some (.int .i64 t.job):=hSw.cell 10;try simp only[sP]
   go_simp<;>(try with_reducible rfl)))
  try simp only[sP]
  refine dN ?_;have hb:Blk wC.drew b 138 (thC s t.fresh D t.job):=(HA.o.drewN 1).blk;have k12:wC.drew.cell? ⟨b,12,none⟩=some (.bool false):=hb.cell 12;have kf:=hb.frozen;have kl:=hb.lt;have dj:((t.job:Int)==(t.jobs.length:Int))=false:=by simp;omega
  go_wp2;have hg:=HG.o;have HS1:ThS b (thC s t.fresh D t.job) g t.job (.slice A P.length c) wC.drew.drew:=HTS.o _ (HA.o.drewN 2);have HA2:Hid (Sat ω wC.drew.drew (bk b 138 (thC s t.fresh D t.job)*(thT t D*F))):=h_ (HA.o.drewN 2);refine gN (ThS b (thC s t.fresh D t.job) g t.job (.slice A P.length c)) HS1 fun hh0=>?_
  refine tH 0 ?_ rfl ?_ (tH 1 ?_ rfl ?_ (tH 2 ?_ rfl ?_ (tH 3 ?_ rfl ?_ (tH 4 ?_ rfl ?_ (tH 5 ?_ rfl ?_ (tH 6 ?_ rfl ?_ (tH 7 ?_ rfl ?_ (tH 8 ?_ rfl ?_ (tH 9 ?_ rfl ?_ (tH 10 ?_ rfl ?_ (tH 11 ?_ rfl ?_ (tH 12 ?_ rfl ?_ (tH 13 ?_ rfl ?_ (tH 14 ?_ rfl ?_ (tH 15 ?_ rfl ?_ (tH 16 ?_ rfl ?_ (tH 17 ?_ rfl ?_ (tH 18 ?_ rfl ?_ ?_))))))))))))))))));all_goals (try (
   intro w hSw;obtain⟨⟨uu,hS2⟩,jr,jg⟩:=hSw;have jf:=hS2.frozen;have jl:=hS2.lt;have j0:w.cell? ⟨b,0,none⟩=some (.int .i64 t.me):=hS2.cell 0;have j1:w.cell? ⟨b,1,none⟩=some (.int .i64 s.words):=hS2.cell 1;have j2:w.cell? ⟨b,2,none⟩=some (.int .i64 s.stripes):=hS2.cell 2;have j3:w.cell? ⟨b,3,none⟩=some (.int .i64 s.wide):=hS2.cell 3;have j4:w.cell? ⟨b,4,none⟩=some (.int .i64 s.threads):=hS2.cell 4;have j5:w.cell? ⟨b,5,none⟩=some (.int .u64 s.start):=hS2.cell 5;have j6:w.cell? ⟨b,6,none⟩=some (.int .i64 s.spins):=hS2.cell 6;have j7:w.cell? ⟨b,7,none⟩=some (.int .i64 s.writes):=hS2.cell 7;have j8:w.cell? ⟨b,8,none⟩=some (.int .i64 s.fuel):=hS2.cell 8;have j9:w.cell? ⟨b,9,none⟩=some (.slice D.jA t.jobs.length D.jc):=hS2.cell 9;have j10:w.cell? ⟨b,10,none⟩=some (.int .i64 t.job):=hS2.cell 10;try simp only[sP]
   go_simp<;>(try with_reducible rfl)))
  try simp only[sP]
  refine oH 19 rfl fun K hK=>?_
  go_simp;go_at_call 91;refine(HM.o _ HA2.o).mono ?_;rintro e wA ⟨nb,rfl,b1,b2,b3,b4,hs⟩;have HZ:=h_ hs;have HB1:=h_ b1;have HB2:=h_ b2;have HB3:=h_ b3;have HB4:=h_ b4;(try go_wp2_with fail);refine hK.q ?_ fun hh1=>?_
  ·exact HB2.o
  try simp only[sP]
  refine tH 20 ?_ rfl ?_ (tH 21 ?_ rfl ?_ ?_);all_goals (try (
   intro w hSw;obtain⟨⟨uu,hS2⟩,jr,jg⟩:=hSw;have jf:=hS2.frozen;have jl:=hS2.lt;have j0:w.cell? ⟨b,0,none⟩=some (.int .i64 t.me):=hS2.cell 0;have j1:w.cell? ⟨b,1,none⟩=some (.int .i64 s.words):=hS2.cell 1;have j2:w.cell? ⟨b,2,none⟩=some (.int .i64 s.stripes):=hS2.cell 2;have j3:w.cell? ⟨b,3,none⟩=some (.int .i64 s.wide):=hS2.cell 3;have j4:w.cell? ⟨b,4,none⟩=some (.int .i64 s.threads):=hS2.cell 4;have j5:w.cell? ⟨b,5,none⟩=some (.int .u64 s.start):=hS2.cell 5;have j6:w.cell? ⟨b,6,none⟩=some (.int .i64 s.spins):=hS2.cell 6;have j7:w.cell? ⟨b,7,none⟩=some (.int .i64 s.writes):=hS2.cell 7;have j8:w.cell? ⟨b,8,none⟩=some (.int .i64 s.fuel):=hS2.cell 8;have j9:w.cell? ⟨b,9,none⟩=some (.slice D.jA t.jobs.length D.jc):=hS2.cell 9;have j10:w.cell? ⟨b,10,none⟩=some (.int .i64 t.job):=hS2.cell 10;try simp only[sP]
   go_simp<;>(try with_reducible rfl)))
  try simp only[sP]
  refine oH 22 rfl fun K hK=>?_
  have lb:=HB1.o.lt;have fb:=HB1.o.frozen;obtain⟨u16,db16⟩:∃u,wA.cell? ⟨b,16,none⟩=some u:=⟨_,HB1.o.cell 16⟩;go_simp;(try go_wp2_with fail);refine hK.q ?_ fun hh2=>?_
  ·exact HB3.o
  try simp only[sP]
  refine dN ?_;have d11:wA.cell? ⟨b,11,none⟩=some (.int .i64 t.state):=HB1.o.cell 11;go_wp2;first|(go_ret;exact⟨rfl,HZ.o⟩)|exact bodyPost_end (results_none rfl _ _ _) rfl ⟨rfl,HZ.o⟩
theorem th_following (ω w:World)(F:HP)(b:Nat)(s:PSt)(t:PTh)(D:ThD)(j:Int)(J:Nat)(hJ:(J:Int)=j+1)(h:Sat ω w (thX b s t D j*F))(hs:s.kept)(hf:({ t with job:=J,tries:=0,conflicts:=0 }:PTh).fit):
  Calls Tryz.prog 58 #[.pointer (some ⟨b,0,none⟩)] w (Rets ω F (.tuple #[]) (thH b s (({ t with job:=J,tries:=0,conflicts:=0 }:PTh).again s))):=by
 have hb:=thX_blk h;have hj1 : -1≤j:=by omega
 have hj2:j≤6:=by have:=hf.job;have:=hf.jobs;simp only at *;omega
 have HA:Hid (∀w1,w1=(((((w.setCell ⟨b,10,none⟩ (.int .i64 (j+1))).setCell ⟨b,12,none⟩ (.bool false)).setCell ⟨b,13,none⟩ (.slice none 0 0)).setCell ⟨b,14,none⟩ (.int .i64 0)).setCell ⟨b,15,none⟩ (.int .i64 0))→Calls Tryz.prog 60 #[.pointer (some ⟨b,0,none⟩)] w1 (Rets ω F (.tuple #[]) (thH b s (({ t with job:=J,tries:=0,conflicts:=0 }:PTh).again s)))):=h_ (fun w1 hw=>by
  subst hw;refine th_again ω _ F b s ({ t with job:=J,tries:=0,conflicts:=0 }:PTh) D ?_ hs hf
  have h1:Sat ω w (bk b 138 (thC s t D j)*((nowH s D.nb t.now*thT t D)*F)):=h.assoc;have h2:=((((h1.put 10 (.int .i64 (j+1)) (cs':=thC s t D (j+1)) rfl).put 12 (.bool false) (cs':=thC s t D (j+1)) rfl).put 13 (.slice none 0 0) (cs':=thC s t D (j+1)) rfl).put 14 (.int .i64 0) (cs':=thC s { t with tries:=0 } D (j+1)) rfl).put 15 (.int .i64 0) (cs':=thC s { t with tries:=0,conflicts:=0 } D (j+1)) rfl
  rw[←hJ] at h2 ⊢;exact h2.assoc')
 have kf:=hb.frozen;have kl:=hb.lt;have k10:=hb.c 10;have k12:=hb.c 12;have k13:=hb.c 13;have k14:=hb.c 14;have k15:=hb.c 15;go_enter Tryz.func58,Tryz.ntmps58;go_wp2_with (go_at_call 60;refine(HA.o _ rfl).mono ?_;rintro e w1 ⟨rfl,hs⟩;have HZ:=h_ hs);exact bodyPost_end (results_none rfl _ _ _) rfl ⟨rfl,HZ.o⟩
theorem th_limbo {ω w:World}{F P:HP}{t:PTh}{D:ThD}(h:Sat ω w (P*(thT t D*F))):Blk w D.lb 188 #[.slice none 0 0]:=by
 have h1:=h.right;unfold thT at h1;have h2:Sat ω w (bk D.lb 188 #[.slice none 0 0]*(thJ t.jobs D*((fact (D.ps.length=t.past.length)*(row 52 14 D.pv t.past.length (toVs D.ps t.past)*toAll D.ps t.past))*(row 66 4 D.rv t.results.length (t.results.flatMap reV)*F)))):=h1.perm (by ac_rfl)
 exact h2.blk
theorem limbo_len (w:World)(l:Nat)(hb:Blk w l 188 #[.slice none 0 0]):
  Calls Tryz.prog 141 #[.pointer (some ⟨l,0,none⟩)] w fun e w'=>e=.returned (.int .i64 0)∧w'=w:=by
 have k0:=hb.c 0;have kl:=hb.lt;go_enter Tryz.func141,Tryz.ntmps141;go_wp2;go_ret;exact⟨rfl,rfl⟩
theorem limbo_add (w:World)(l:Nat)(st:Int):
  Calls Tryz.prog 101 #[.pointer (some ⟨l,0,none⟩),.int .u64 st,.slice none 0 0] w fun e w'=>e=.returned (.tuple #[])∧w'=w:=by
 go_enter Tryz.func101,Tryz.ntmps101;go_wp2;go_loopw [10] (fun i wr=>i=.int .i64 0∧wr=w) (fun _ _=>0)
 case atStart=>exact⟨rfl,rfl⟩
 case round =>
  obtain⟨rfl,rfl⟩:=hrel;go_wp2;exact bodyPost_end (results_none rfl _ _ _) rfl ⟨rfl,rfl⟩
theorem th_over (ω w:World)(F:HP)(b:Nat)(s:PSt)(t:PTh)(D:ThD)(h:Sat ω w (thX b s t D t.job*F))(hs:s.kept)(hf:({ t with job:=t.job+1,tries:=0,conflicts:=0 }:PTh).fit):
  Calls Tryz.prog 103 #[.pointer (some ⟨b,0,none⟩)] w (Rets ω F (.tuple #[]) (thH b s (t.following s))):=by
 have HL:=h_ (limbo_len w D.lb (th_limbo (P:=bk b 138 (thC s t D t.job)*nowH s D.nb t.now) (h.perm (by unfold thX;ac_rfl))))
 have HF:=h_ (th_following ω w F b s t D t.job (t.job+1) (by simp) h hs hf)
 have hb:=thX_blk h;have kf:=hb.frozen;have kl:=hb.lt;have k21:w.cell? ⟨b,21,none⟩=some (.pointer (some ⟨D.lb,0,none⟩)):=hb.cell 21;go_enter Tryz.func103,Tryz.ntmps103;go_wp2_with (first
  |(go_at_call 141;refine HL.o.mono ?_;rintro e w1 ⟨rfl,rfl⟩)
  |(go_at_call 58;refine HF.o.mono ?_;rintro e w1 ⟨rfl,hs⟩;have HZ:=h_ hs))
 first|(go_ret;exact⟨rfl,HZ.o⟩)|exact bodyPost_end (results_none rfl _ _ _) rfl ⟨rfl,HZ.o⟩
end Go.Proofs.YtfodmgaliclhfaaGreatDoor
