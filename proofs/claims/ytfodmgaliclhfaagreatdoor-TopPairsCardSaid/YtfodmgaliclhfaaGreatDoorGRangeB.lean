/- Lemmas for TopPairs; no conditions. -/
import Derived.Test.YtfodmgaliclhfaaGreatDoorGLv
import Derived.RangeFuncNested
import Derived.RangeFuncBound
import Derived.RangeFuncCalls
import Derived.RangeFuncLeaves
import Derived.Shelf.Abstract
import Derived.Shelf.RegionOpen
import Derived.WalkKit
import Derived.OwnWalkIn
import Derived.TacticsInMore
import Derived.LoopNIn
import Derived.LoopIn
namespace Go.Proofs.YtfodmgaliclhfaaGreatDoor
set_option linter.unusedVariables false
set_option linter.unusedSimpArgs false
set_option maxRecDepth 100000
set_option maxHeartbeats 8000000
open Go.RowKit
section
variable (ω w : World) (F : HP)
theorem rowCut1 {ω w:World}{F:HP}{e:TypeId}{g c:Nat}{rs:List Nat}{r:Nat}(h:Sat ω w (row e 1 (.slice (some ⟨g,0,none⟩) (rs++[r]).length c) (rs++[r]).length (pS (rs++[r]))*F)):Sat ω w (row e 1 (.slice (some ⟨g,0,none⟩) rs.length c) rs.length (pS rs)*F):=by
 have h1:=h.rowCut (m:=rs.length) (by simp)
 rw[Nat.mul_one,pS_snoc,List.take_left' (by rw[pS_len])] at h1
 exact h1
theorem lv_dropX (b most:Nat)(A:Option Addr)(c:Nat)(rs:List Nat)(r:Nat)(ws:List PWr)(x:PWr)(h:Sat ω w (lvX b most A c (rs++[r]) (ws++[x])*F))(hl:rs.length=ws.length)(h1:1≤rs.length)(h6:rs.length≤5):
  Calls Tryz.prog 323 #[.pointer (some ⟨b,0,none⟩)] w (Rets ω F (.int .i64 0) (lvX b most A c rs ws*lvOne r x)):=by
 have h0:Sat ω w (bk b 292 #[.int .i64 most,.slice A (rs++[r]).length c]*(row 290 1 (.slice A (rs++[r]).length c) (rs++[r]).length (pS (rs++[r]))*(lvAll rs ws*(lvOne r x*F)))):=by
  unfold lvX at h;rw[lvAll_snoc rs ws r x hl] at h;exact h.perm (by ac_rfl)
 obtain⟨g,rfl,lg,_⟩:=h0.right.rowAt (l:=rs++[r]) (f:=fun b=>[pV b]) (fun _=>rfl) 0 (i:=0) (by simp)
 have k1:=h0.blk;have c1:=k1.cell 1;have f1:=k1.frozen;have l1:=k1.lt;have HX:Hid (∀q,Sat ω ((w.drewN q).setCell ⟨b,1,none⟩ (.slice (some ⟨g,0,none⟩) rs.length c)) (lvX b most (some ⟨g,0,none⟩) c rs ws*lvOne r x*F)):=h_ (fun q=>by
  have h2:=((h0.drewN q).put 1 (.slice (some ⟨g,0,none⟩) rs.length c) (cs':=#[.int .i64 most,.slice (some ⟨g,0,none⟩) rs.length c]) rfl).swap;have h3:=(rowCut1 h2).swap;exact h3.perm (by unfold lvX;ac_rfl))
 have hlen:(rs++[r]).length=rs.length+1:=by simp
 rw[hlen] at c1;have hcap:rs.length+1≤c:=by
  rcases h0.right.cases with⟨h8,_⟩|⟨g',cap,cur,h8,h9,_⟩
  ·cases h8
  ·injection h8 with _ _ h8
   subst h8;rw[←hlen];exact h9
 clear h h0 k1 hlen hl;generalize rs.length=n at *
 have e2:((((n+1:Nat):Int)==1))=false:=by rw[beq_eq_false_iff_ne];omega
 have e3:(((n:Int)+1)==1)=false:=by rw[beq_eq_false_iff_ne];omega
 have hcc:n≤c:=by omega
 have hw:IntKind.i64.wrap (n:Int)=(n:Int):=by
  rcases(by omega:n=1∨n=2∨n=3∨n=4∨n=5) with rfl|rfl|rfl|rfl|rfl<;>rfl
 go_enter Tryz.func323,Tryz.ntmps323;go_wp2;refine rT 14 ?_;simp only[sD,sE,sF,sG];repeat still_step
 refine wpStill_nil ?_;go_wp2;go_ret;exact⟨rfl,HX.o 1⟩
theorem snoc_of {α:Type}{l:List α}(h:l≠[]):∃i x,l=i++[x]:=by
 rcases List.eq_nil_or_concat l with rfl|⟨i,a,rfl⟩
 ·exact absurd rfl h
 ·exact⟨i,a,by simp⟩
theorem lv_drop (b:Nat)(l:PLv)(h:Sat ω w (lvH b l*F))(ho:l.ok):
  Calls Tryz.prog 323 #[.pointer (some ⟨b,0,none⟩)] w (Rets ω F (.int .i64 l.drop.1) (lvH b l.drop.2)):=by
 obtain⟨A,c,rs,hl,hx⟩:=lvH_of h;by_cases h1:l.rows.length=1
 ·rw[show l.drop=(10,l) by unfold PLv.drop;rw[if_pos h1]]
  have k1:=hx.assoc.blk;have c1:=k1.cell 1;have l1:=k1.lt;rw[hl,h1] at c1;have H:=h_ h;clear h hx k1 h1 hl ho;go_enter Tryz.func323,Tryz.ntmps323;go_wp2;go_ret;exact⟨rfl,H.o⟩
 ·rw[show l.drop=(0,{ l with rows:=l.rows.dropLast }) by unfold PLv.drop;rw[if_neg h1]]
  obtain⟨most,rows⟩:=l;simp only at *
  obtain⟨hn,hf,hm,hr⟩:=ho;simp only at *
  obtain⟨ws,x,rfl⟩:=snoc_of hn;obtain⟨rs,r,rfl⟩:=snoc_of (l:=rs) (by intro e;subst e;simp at hl)
  simp only[List.length_append,List.length_singleton] at hl h1 hf;refine(lv_dropX ω w F b most A c rs r ws x hx (by omega) (by omega) (by omega)).mono ?_
  rintro e w' ⟨rfl,h2⟩;rw[List.dropLast_concat];refine⟨rfl,lvH_to (A:=A) (c:=c) (rs:=rs) (by simp only;omega) ?_⟩
  exact(h2.perm (show lvX b most A c rs ws*lvOne r x*F=lvOne r x*(lvX b most A c rs ws*F) by ac_rfl)).right
theorem infoLev_:(Tryz.prog.info? 290).map (fun i=>(i.zero,i.size,i.bytes))=some (some (.pointer none),1,8):=by kernel_rfl
theorem lv_open (b:Nat)(l:PLv)(h:Sat ω w (lvH b l*F))(ho:l.ok):
  Calls Tryz.prog 355 #[.pointer (some ⟨b,0,none⟩)] w (Rets ω F (.int .i64 l.open_.1) (lvH b l.open_.2)):=by
 obtain⟨A,c,rs,hl,hx⟩:=lvH_of h;have k1:=hx.assoc.blk;have c1:=k1.cell 1;have l1:=k1.lt;by_cases h1:6≤l.rows.length
 ·rw[show l.open_=(9,l) by unfold PLv.open_;rw[if_pos h1]]
  rw[hl,show l.rows.length=6 from Nat.le_antisymm ho.few h1] at c1
  have H:=h_ h;clear h hx k1 h1 hl ho;go_enter Tryz.func355,Tryz.ntmps355;go_wp2;go_ret;exact⟨rfl,H.o⟩
 ·rw[show l.open_=(0,{ l with rows:=l.rows++[[]] }) by unfold PLv.open_;rw[if_neg h1]]
  obtain⟨i0,hi0,hz⟩:=Option.map_eq_some_iff.1 infoLev_;simp only[Prod.mk.injEq] at hz;obtain⟨hz0,hz1,hz2⟩:=hz;have HI:=h_ hi0;have HZ0:=h_ hz0;have HZ1:=h_ hz1;have HZ2:=h_ hz2;obtain⟨most,rows⟩:=l;simp only at *
  have HN:Hid (∀q,Calls Tryz.prog 206 #[] (w.drewN q) (RetP ω (lvX b most A c rs rows*F) fun r=>lvOne r [])):=h_ (fun q=>lv_fresh ω _ _ (hx.drewN q))
  have HFI:Hid (∀w2 r A' c',Sat ω w2 (row 290 1 (.slice A' (rs.length+1) c') (rs.length+1) (pS rs++[pV r])*(bk b 292 #[.int .i64 most,.slice A' (rs.length+1) c']*(lvOne r []*(lvAll rs rows*F))))→Sat ω w2 (lvH b { most:=most,rows:=rows++[[]] }*F)):=h_ (fun w2 r A' c' h2=>by
   refine lvH_to (A:=A') (c:=c') (rs:=rs++[r]) (by simp[hl]) ?_
   unfold lvX;simp only[lvAll_snoc rs rows r [] hl,pS_snoc,List.length_append,List.length_singleton];exact h2.perm (by ac_rfl))
  have HOP:Hid (∀w1 r,Sat ω w1 (lvOne r []*(lvX b most A c rs rows*F))→Sat ω w1 (row 290 1 (.slice A rs.length c) rs.length (pS rs)*(bk b 292 #[.int .i64 most,.slice A rs.length c]*(lvOne r []*(lvAll rs rows*F))))):=h_ (fun w1 r h2=>h2.perm (by unfold lvX;ac_rfl))
  have HON:Hid (∀r,∀u∈[Value.pointer (some ⟨r,0,none⟩)],u.oneCell'=true):=h_ (by intro r u hu;simp at hu;subst hu;rfl)
  have HRD:Hid (∀(w1:World) r,Reads (w1.alloc (.cells #[.pointer (some ⟨r,0,none⟩)] 290)) (w1.heap.size+1) 1 (some ⟨w1.heap.size,0,none⟩) 1 [.pointer (some ⟨r,0,none⟩)]):=h_ (fun w1 r=>by
   have h9:=Reads.of_blk (size:=1) (n:=1) (Blk.new w1 290 #[.pointer (some ⟨r,0,none⟩)]) rfl;rw[World.size_alloc] at h9;exact h9)
  have hn6:rs.length≤5:=by omega
  rw[show(#[Value.int .i64 most,.slice A rs.length c][1]?)=some (.slice A rs.length c) from rfl] at c1
  generalize rs.length=n at *
  clear h hx k1 h1 hl ho hi0 hz0 hz1 hz2;go_enter Tryz.func355,Tryz.ntmps355;go_wp2;refine wp_region_any (by kernel_rfl) ?_
  try (change wpAny _ _ _ _ _ _ _ (World.drew _))
  refine tF 0 ?_ rfl ?_ (tF 1 ?_ rfl ?_ (tF 2 ?_ rfl ?_ (tF 3 ?_ rfl ?_ ?_)));all_goals (try (
   intro w;go_simp<;>(try with_reducible rfl)))
  refine rF [4,5] ?_;refine AllReady.cons rfl (fun K hK=>?_) ?_
  ·go_simp;refine hK _ _ ?_;clear hK K;refine oF 5 rfl fun K hK=>?_
   go_simp;go_at_call 206;refine(HN.o 1).mono ?_;rintro e w1 ⟨r,rfl,hx⟩;have hz9:=HOP.o _ _ hx;have k9:=hz9.right.blk;have c9:=k9.c 1;have l9:=k9.lt;have l99:b<w1.heap.size+1:=(by omega);have HS:=h_ hz9;clear hx k9 hz9
   refine hK _ _ ?_;clear hK K;refine oF 6 rfl fun K hK=>?_
   go_simp;refine hK _ _ ?_;clear hK K;refine oF 7 rfl fun K hK=>?_
   refine sap 289 290 1 8 Tryz.underlying289 HI.o HZ0.o HZ1.o HZ2.o (HS.o.junk _) (HRD.o _ _) (HON.o _) ?_;intro A' c' w2 hs;have kb:=hs.right.blk;have qf:=kb.frozen;have ql:=kb.lt;have q1:=kb.cell 1;have HY:=h_ (hs.swap.put 1 (.slice A' (n+1) c') (cs':=#[.int .i64 most,.slice A' (n+1) c']) rfl).swap;clear hs kb;refine hK _ _ ?_;clear hK K;refine tF 8 ?_ rfl ?_ (tF 9 ?_ rfl ?_ ?_);all_goals (try (
    intro w;go_simp<;>(try with_reducible rfl)))
   refine oF 10 rfl fun K hK=>?_
   go_simp;refine hK _ _ ?_;clear hK K;refine dF ?_;go_wp2;go_ret;exact⟨rfl,HFI.o _ _ _ _ HY.o⟩
  refine nF rfl fun K hK=>?_
  ·go_simp;go_at_call 206;refine(HN.o 1).mono ?_;rintro e w1 ⟨r,rfl,hx⟩;have hz9:=HOP.o _ _ hx;have k9:=hz9.right.blk;have c9:=k9.c 1;have l9:=k9.lt;have l99:b<w1.heap.size+1:=(by omega);have HS:=h_ hz9;clear hx k9 hz9
   refine hK _ _ ?_;clear hK K;refine rF [4,6] ?_;refine AllReady.cons rfl (fun K hK=>?_) ?_
   ·go_simp;refine hK _ _ ?_;clear hK K;refine oF 6 rfl fun K hK=>?_
    go_simp;refine hK _ _ ?_;clear hK K;refine oF 7 rfl fun K hK=>?_
    refine sap 289 290 1 8 Tryz.underlying289 HI.o HZ0.o HZ1.o HZ2.o (HS.o.junk _) (HRD.o _ _) (HON.o _) ?_;intro A' c' w2 hs;have kb:=hs.right.blk;have qf:=kb.frozen;have ql:=kb.lt;have q1:=kb.cell 1;have HY:=h_ (hs.swap.put 1 (.slice A' (n+1) c') (cs':=#[.int .i64 most,.slice A' (n+1) c']) rfl).swap;clear hs kb;refine hK _ _ ?_;clear hK K;refine tF 8 ?_ rfl ?_ (tF 9 ?_ rfl ?_ ?_);all_goals (try (
     intro w;go_simp<;>(try with_reducible rfl)))
    refine oF 10 rfl fun K hK=>?_
    go_simp;refine hK _ _ ?_;clear hK K;refine dF ?_;go_wp2;go_ret;exact⟨rfl,HFI.o _ _ _ _ HY.o⟩
   refine nF rfl fun K hK=>?_
   ·go_simp;refine hK _ _ ?_;clear hK K;refine oF 4 rfl fun K hK=>?_
    go_simp;refine hK _ _ ?_;clear hK K;refine oF 7 rfl fun K hK=>?_
    refine sap 289 290 1 8 Tryz.underlying289 HI.o HZ0.o HZ1.o HZ2.o (HS.o.junk _) (HRD.o _ _) (HON.o _) ?_;intro A' c' w2 hs;have kb:=hs.right.blk;have qf:=kb.frozen;have ql:=kb.lt;have q1:=kb.cell 1;have HY:=h_ (hs.swap.put 1 (.slice A' (n+1) c') (cs':=#[.int .i64 most,.slice A' (n+1) c']) rfl).swap;clear hs kb;refine hK _ _ ?_;clear hK K;refine tF 8 ?_ rfl ?_ (tF 9 ?_ rfl ?_ ?_);all_goals (try (
     intro w;go_simp<;>(try with_reducible rfl)))
    refine oF 10 rfl fun K hK=>?_
    go_simp;refine hK _ _ ?_;clear hK K;refine dF ?_;go_wp2;go_ret;exact⟨rfl,HFI.o _ _ _ _ HY.o⟩
end
theorem wr_getQ {ω w:World}{F:HP}{b most:Nat}{l:PWr}(h:Sat ω w (wrH b most l*F))(hl:l.length≤1000)(p:Nat):Hid (∀w1,Only Nob w w1→Calls Tryz.prog 257 #[.pointer (some ⟨b,0,none⟩),.int .i64 p] w1 fun e w'=>e=.returned (.tuple #[.int .u64 (((wGet l p).getD 0:Nat):Int),.bool (wGet l p).isSome])∧Only Nob w w') :=
 h_ (fun w1 ho=>(wr_get ω w1 F b most l (h.nob ho) hl p).mono fun e w' h1=>⟨h1.1,ho.trans h1.2⟩)
theorem lv_put (ω w:World)(F:HP)(b:Nat)(l:PLv)(h:Sat ω w (lvH b l*F))(ho:l.ok)(p v:Nat)(hp:p≤1000000):
  Calls Tryz.prog 259 #[.pointer (some ⟨b,0,none⟩),.int .i64 p,.int .u64 v] w (Rets ω F (.int .i64 ((l.put p v).1:Int)) (lvH b (l.put p v).2)):=by
 have H:=h_ h;by_cases h0:p<1∨256≤p
 ·rw[show l.put p v=(2,l) by unfold PLv.put;rw[if_pos h0]]
  clear h;rcases h0 with h0|h0
  ·have d:decide ((p:Int)<1)=true:=by simp;omega
   go_enter Tryz.func259,Tryz.ntmps259;go_wp2;go_ret;exact⟨rfl,H.o⟩
  ·have d:¬(p:Int)<1:=by omega
   go_enter Tryz.func259,Tryz.ntmps259;go_wp2;go_ret;exact⟨rfl,H.o⟩
 ·have g1:¬(p:Int)<1:=by omega
  have g2:¬(256:Int)≤(p:Int):=by omega
  have hnl:=List.length_pos_iff.2 ho.some_;have hn6:=ho.few;obtain⟨g,cp,r,wb,G,h1,h2,h3⟩:=lv_inmost h ho.some_;have HC:=h_ (h2 w _ _ h1);have HI:Hid (Calls Tryz.prog 258 #[.pointer (some ⟨b,0,none⟩)] w fun e w'=>e=.returned (pV r)∧Only Nob w w'):=h_ (by
   have h9:=HC.o;rw[show l.rows.length=(l.rows.length-1)+1 by omega] at h9
   exact lv_in w b _ g cp r wb h9 (by omega))
  have HG:=wr_getQ h1 (by have:=ho.in_.1;omega) p
  have HR:Hid (∀w1,Only Nob w w1→Calls Tryz.prog 324 #[.pointer (some ⟨b,0,none⟩)] w1 fun e w'=>e=.returned (.int .i64 l.room)∧Only Nob w w'):=h_ (fun w1 h9=>(lv_room ω w1 F b l (h.nob h9) ho).mono fun e w' h8=>⟨h8.1,h9.trans h8.2⟩)
  have HP:Hid (∀w1,Only Nob w w1→Calls Tryz.prog 222 #[.pointer (some ⟨wb,0,none⟩),.int .i64 p,.int .u64 v] w1 (WrPost ω (bk r 296 #[pV wb,.slice none 0 0]*(G*F)) wb 96 (wPut 96 l.inmost p v))):=h_ (fun w1 h9=>wr_put ω w1 _ wb 96 l.inmost (h1.nob h9) (by have:=ho.in_.1;omega) (by omega) p v hp)
  have HCC:Hid (∀w1,Only Nob w w1→w1.cell? ⟨r,0,none⟩=some (.pointer (some ⟨wb,0,none⟩))∧r<w1.heap.size):=h_ (fun w1 h9=>⟨((HC.o).nob h9).cells,((HC.o).nob h9).lr⟩)
  have HQ:Hid (l.put p v=if(wGet l.inmost p).isNone∧l.room=0 then(5,l) else((wPut 96 l.inmost p v).1,l.setIn (wPut 96 l.inmost p v).2)):=h_ (by unfold PLv.put;rw[if_neg h0])
  have HFI:Hid (∀w1 e,WrPost ω (bk r 296 #[pV wb,.slice none 0 0]*(G*F)) wb 96 (wPut 96 l.inmost p v) e w1→e=.returned (.int .i64 ((wPut 96 l.inmost p v).1:Int))∧Sat ω w1 (lvH b (l.setIn (wPut 96 l.inmost p v).2)*F)):=h_ (fun w1 e h9=>⟨h9.1,h3 _ _ _ h9.2⟩)
  generalize l.put p v=R at *
  generalize wPut 96 l.inmost p v=T at *
  generalize wGet l.inmost p=o at *
  generalize l.room=m at *
  unfold pV at HI;clear h h1 h2 h3 h0 HC;cases o with
  |some y =>
   have HE:Hid (R=(T.1,l.setIn T.2)):=h_ (by rw[HQ.o,if_neg (by simp)])
   rw[HE.o];simp only[Option.getD_some,Option.isSome_some] at HG;clear HQ HE;go_enter Tryz.func259,Tryz.ntmps259;go_wp2_with (first
    |(go_at_call 258;refine(HI.o).mono ?_;rintro e w1 ⟨rfl,ho1⟩;obtain⟨d1,d2⟩:=HCC.o _ ho1;have HO1:=h_ ho1;clear ho1)
    |(go_at_call 257;refine(HG.o _ HO1.o).mono ?_;rintro e w2 ⟨rfl,ho2⟩;have HO2:=h_ ho2;clear ho2)
    |(go_at_call 222;refine(HP.o _ HO2.o).mono ?_;rintro e w3 hx;obtain⟨rfl,hy⟩:=HFI.o _ _ hx;have HS:=h_ hy;clear hx hy))
   go_ret;exact⟨rfl,HS.o⟩
  |none =>
   simp only[Option.getD_none,Option.isSome_none] at HG;by_cases hm:m=0
   ·have HE:Hid (R=(5,l)):=h_ (by rw[HQ.o,if_pos (by simp[hm])])
    rw[HE.o];rw[hm] at HR;clear HQ HE hm;go_enter Tryz.func259,Tryz.ntmps259;go_wp2_with (first
     |(go_at_call 258;refine(HI.o).mono ?_;rintro e w1 ⟨rfl,ho1⟩;obtain⟨d1,d2⟩:=HCC.o _ ho1;have HO1:=h_ ho1;clear ho1)
     |(go_at_call 257;refine(HG.o _ HO1.o).mono ?_;rintro e w2 ⟨rfl,ho2⟩;have HO2:=h_ ho2;clear ho2)
     |(go_at_call 324;refine(HR.o _ HO2.o).mono ?_;rintro e w3 ⟨rfl,ho3⟩;have HS:=h_ (H.o.nob ho3);clear ho3))
    go_ret;exact⟨rfl,HS.o⟩
   ·have HE:Hid (R=(T.1,l.setIn T.2)):=h_ (by rw[HQ.o,if_neg (by simp[hm])])
    have d:(m==0)=false:=by simpa using hm
    rw[HE.o];clear HQ HE hm;go_enter Tryz.func259,Tryz.ntmps259;go_wp2_with (first
     |(go_at_call 258;refine(HI.o).mono ?_;rintro e w1 ⟨rfl,ho1⟩;obtain⟨d1,d2⟩:=HCC.o _ ho1;have HO1:=h_ ho1;clear ho1)
     |(go_at_call 257;refine(HG.o _ HO1.o).mono ?_;rintro e w2 ⟨rfl,ho2⟩;have HO2:=h_ ho2;clear ho2)
     |(go_at_call 324;refine(HR.o _ HO2.o).mono ?_;rintro e w3 ⟨rfl,ho3⟩;have HO3:=h_ ho3;clear ho3)
     |(go_at_call 222;refine(HP.o _ HO3.o).mono ?_;rintro e w4 hx;obtain⟨rfl,hy⟩:=HFI.o _ _ hx;have HS:=h_ hy;clear hx hy))
    go_ret;exact⟨rfl,HS.o⟩
theorem PLv.ok.drop {l:PLv}(h:l.ok)(h1:l.rows.length≠1):l.drop.2.ok:=by
 unfold PLv.drop;rw[if_neg h1];have h2:=List.length_pos_iff.2 h.some_;have h3:=h.few;refine⟨?_,?_,h.most,fun r hr=>h.rows r (List.dropLast_subset _ hr)⟩
 ·intro e
  have:=congrArg List.length e
  simp at this;omega
 ·simp;omega
theorem lv_keep (ω w:World)(F:HP)(b:Nat)(l:PLv)(h:Sat ω w (lvH b l*F))(ho:l.ok):
  Calls Tryz.prog 321 #[.pointer (some ⟨b,0,none⟩)] w (Rets ω F (.int .i64 l.keep.1) (lvH b l.keep.2)):=by
 have H:=h_ h;have hnl:=List.length_pos_iff.2 ho.some_;have hn6:=ho.few;obtain⟨g,cp,r,wb,G,h1,h2,h3⟩:=lv_inmost h ho.some_;have HC:=h_ (h2 w _ _ h1);by_cases hone:l.rows.length=1
 ·have HI:Hid (Calls Tryz.prog 258 #[.pointer (some ⟨b,0,none⟩)] w fun e w'=>e=.returned (pV r)∧Only Nob w w'):=h_ (by
   have h9:=HC.o;rw[show l.rows.length=(l.rows.length-1)+1 by omega] at h9
   exact lv_in w b _ g cp r wb h9 (by omega))
  unfold pV at HI;have HD:Hid (∀w1,Only Nob w w1→Calls Tryz.prog 323 #[.pointer (some ⟨b,0,none⟩)] w1 (Rets ω F (.int .i64 10) (lvH b l))):=h_ (fun w1 h9=>by
   have h8:=lv_drop ω w1 F b l (h.nob h9) ho;rw[show l.drop=(10,l) by unfold PLv.drop;rw[if_pos hone]] at h8
   exact h8)
  rw[show l.keep=(10,l) by unfold PLv.keep PLv.drop;rw[if_pos hone];rfl]
  clear h h1 h2 h3 hone hnl hn6 ho HC;go_enter Tryz.func321,Tryz.ntmps321;go_wp2_with (first
   |(go_at_call 258;refine(HI.o).mono ?_;rintro e w1 ⟨rfl,ho1⟩;have HO1:=h_ ho1;clear ho1)
   |(go_at_call 323;refine(HD.o _ HO1.o).mono ?_;rintro e w2 ⟨rfl,hx⟩;have HS:=h_ hx;clear hx))
  go_ret;exact⟨rfl,HS.o⟩
 ·clear h1 h2 h3 HC r wb G g cp;obtain⟨A,c,rs,hl,hx⟩:=lvH_of h;have hx0:∃(ws:List PWr) (x:PWr),l.rows=ws++[x]:=snoc_of ho.some_;obtain⟨ws,x,hws⟩:=hx0;obtain⟨rs,r,rfl⟩:=snoc_of (l:=rs) (by intro e;subst e;simp at hl;omega)
  have hlen:rs.length=ws.length∧1≤rs.length∧rs.length≤5:=by
   rw[hws] at hl hone hn6;simp only[List.length_append,List.length_singleton] at hl hone hn6;omega
  rw[hws] at hx;have hin:l.inmost=x:=by
   unfold PLv.inmost;rw[hws];simp
  have hdr:l.drop=(0,{ l with rows:=ws }):=by
   unfold PLv.drop;rw[if_neg hone,hws,List.dropLast_concat]
  have hok2:=ho.drop hone;rw[hdr] at hok2;simp only at hok2;have hxl:=ho.in_;rw[hin] at hxl;have HI:Hid (∃g' cp' wb',LvC w b (rs.length+1) rs.length g' cp' r wb'):=h_ (by
   obtain⟨g,cp,r',wb,G,h1,h2,_⟩:=lv_inmost h ho.some_;have h9:=h2 w _ _ h1;have hA:Sat ω w (bk b 292 #[.int .i64 l.most,.slice A (rs++[r]).length c]*(row 290 1 (.slice A (rs++[r]).length c) (rs++[r]).length (pS (rs++[r]))*(lvAll (rs++[r]) (ws++[x])*F))):=by
    unfold lvX at hx;exact hx.perm (by ac_rfl)
   obtain⟨g2,rfl,_,hc2⟩:=hA.right.rowAt (l:=rs++[r]) (f:=fun b=>[pV b]) (fun _=>rfl) 0 (i:=rs.length) (by simp)
   have e1:=h9.rows;have e2:=hA.blk.cell 1;have e3:some (Value.slice (some ⟨g,0,none⟩) l.rows.length cp)=some (Value.slice (some ⟨g2,0,none⟩) (rs++[r]).length c):=e1.symm.trans e2;injection e3 with e3
   injection e3 with e3 _ _
   injection e3 with e3
   injection e3 with e3
   subst e3;have e4:=hc2 0 (by omega)
   rw[Nat.mul_one,Nat.add_zero] at e4;have e5:=h9.last;have e6:l.rows.length=rs.length+1:=by rw[hws];simp;omega
   rw[e6,Nat.add_sub_cancel] at e5 h9;rw[e5] at e4;simp only[gD,List.getElem?_append_right (Nat.le_refl _),Nat.sub_self,List.getElem?_cons_zero,Option.getD_some,pV,Option.some.injEq,Value.pointer.injEq,Addr.mk.injEq,and_true] at e4;subst e4;exact⟨g,cp,wb,h9⟩)
  obtain⟨g1,cp1,wb1,HI⟩:=HI.o;have HIN:Hid (Calls Tryz.prog 258 #[.pointer (some ⟨b,0,none⟩)] w fun e w'=>e=.returned (pV r)∧Only Nob w w'):=h_ (lv_in w b _ g1 cp1 r wb1 HI (by omega))
  have HD:Hid (∀w1,Only Nob w w1→Calls Tryz.prog 323 #[.pointer (some ⟨b,0,none⟩)] w1 (Rets ω F (.int .i64 0) (lvX b l.most A c rs ws*lvOne r x))):=h_ (fun w1 h9=>lv_dropX ω w1 F b l.most A c rs r ws x (hx.nob h9) hlen.1 hlen.2.1 hlen.2.2)
  have HB:Hid (∀w2,Sat ω w2 (lvX b l.most A c rs ws*lvOne r x*F)→∃g cp r2 wb G wx,r<w2.heap.size∧w2.cell? ⟨r,0,none⟩=some (pV wx)∧w2.cell? ⟨r,1,none⟩=some (.slice none 0 0) ∧
    LvC w2 b ws.length (ws.length-1) g cp r2 wb∧(∀j,w2.frozen? ⟨r2,j,none⟩=false) ∧
    (∀w3,Only Nob w2 w3→Sat ω (w3.setCell ⟨r2,1,none⟩ (.slice none 0 0)) (wrH wx 96 x*(wrH wb 96 (ws.getLastD [])*(bk r2 296 #[pV wb,.slice none 0 0]*(bk r 296 #[pV wx,.slice none 0 0]*(G*F)))))) ∧
    (∀w4 y P,Sat ω w4 (P*(wrH wx 96 x*(wrH wb 96 y*(bk r2 296 #[pV wb,.slice none 0 0]*(bk r 296 #[pV wx,.slice none 0 0]*(G*F))))))→Sat ω w4 (lvH b (PLv.setIn { l with rows:=ws } y)*F))):=h_ (fun w2 h9=>by
   have h8:Sat ω w2 (lvOne r x*(lvX b l.most A c rs ws*F)):=h9.perm (by ac_rfl)
   obtain⟨wx,h7⟩:=h8.of_ex;have h6:Sat ω w2 (lvH b { l with rows:=ws }*(bk r 296 #[pV wx,.slice none 0 0]*(wrH wx 96 x*F))):=lvH_to (l:={ l with rows:=ws }) (A:=A) (c:=c) (rs:=rs) hlen.1 (h7.perm (by ac_rfl))
   obtain⟨g,cp,r2,wb,G,k1,k2,k3⟩:=lv_inmost h6 hok2.some_;refine⟨g,cp,r2,wb,G,wx,h7.assoc.blk.lt,h7.assoc.blk.cell 0,h7.assoc.blk.cell 1,k2 _ _ _ k1,k1.right.blk.frozen,?_,?_⟩
   ·intro w3 h10;have h11:=(k1.nob h10).swap.put 1 (.slice none 0 0) (cs':=#[pV wb,.slice none 0 0]) rfl;exact h11.perm (by unfold PLv.inmost;simp only;ac_rfl)
   ·intro w4 y P h12;have h13:Sat ω w4 (wrH wb 96 y*(bk r2 296 #[pV wb,.slice none 0 0]*(G*(P*(bk r 296 #[pV wx,.slice none 0 0]*(wrH wx 96 x*F)))))):=h12.perm (by ac_rfl)
    have h14:=k3 w4 y _ h13;exact(h14.perm (show lvH b (PLv.setIn { l with rows:=ws } y)*(P*(bk r 296 #[pV wx,.slice none 0 0]*(wrH wx 96 x*F)))=(P*(bk r 296 #[pV wx,.slice none 0 0]*wrH wx 96 x))*(lvH b (PLv.setIn { l with rows:=ws } y)*F) by ac_rfl)).right)
  have hwx:=ho.rows x (by rw[hws];simp)
  have hyl:(ws.getLastD []).length≤96:=by
   have:=hok2.in_.1
   unfold PLv.inmost at this;exact this
  have hKE:Hid (l.keep=((wTake 96 (ws.getLastD []) x).1,PLv.setIn { l with rows:=ws } (wTake 96 (ws.getLastD []) x).2)):=h_ (by
   unfold PLv.keep;simp only[hdr,hin];rfl)
  rw[hKE.out];have HALL:=h_ (fun w3 wx F (h9:Sat ω w3 (wrH wx 96 x*F))=>wr_all ω w3 F wx 96 x h9 (by omega))
  have HTK:=h_ (fun w3 wb A c F (h9:Sat ω w3 (wrH wb 96 (ws.getLastD [])*(row 54 2 (.slice A x.length c) x.length (vS x)*F)))=>wr_take ω w3 F wb 96 (ws.getLastD []) x A c h9 (by omega) (by omega) (by omega) hwx.2)
  have HIN2:=h_ (fun w2 g cp r2 wb (h9:LvC w2 b ws.length (ws.length-1) g cp r2 wb)=>lv_in w2 b (ws.length-1) g cp r2 wb (by rw[show ws.length-1+1=ws.length by omega];exact h9) (by omega))
  generalize wTake 96 (ws.getLastD []) x=T at *
  clear h hws hin hdr hok2 hxl hlen hKE hl hx HI ho hnl hn6 hone H hwx hyl;generalize ws.getLastD []=y at *
  generalize ws.length=N at *
  unfold pV at HIN HIN2;unfold PLv.setIn at *
  generalize x.length=xn at *
  go_enter Tryz.func321,Tryz.ntmps321;go_wp2_with (first
   |(go_at_call 258;refine(HIN.o).mono ?_;rintro e w1 ⟨rfl,ho1⟩;have HO1:=h_ ho1;clear ho1 HIN)
   |(go_at_call 323;refine(HD.o _ HO1.o).mono ?_;rintro e w2 ⟨rfl,hx⟩;obtain⟨g,cp,r2,wb,G,wx,b1,b2,b3,b4,b5,b6,b7⟩:=HB.o _ hx;have HIN3:=h_ (HIN2.o _ _ _ _ _ b4);have B4:=h_ b4;have HS6:=h_ b6;have HS7:=h_ b7;clear hx b4 b6 b7 HIN2)
   |(go_at_call 258;refine(HIN3.o).mono ?_;rintro e w3 ⟨rfl,ho3⟩;have HO3:=h_ ho3;obtain⟨e1,e2,e3,e4,e5,e6,e7⟩:=B4.out.nob ho3;have a1:=(ho3.cell (p:=⟨r,0,none⟩) b1 (fun e=>e)).trans b2;have a2:=(ho3.cell (p:=⟨r,1,none⟩) b1 (fun e=>e)).trans b3;have a3:r<w3.heap.size:=Nat.lt_of_lt_of_le b1 ho3.size;have a4:∀j,w3.frozen? ⟨r2,j,none⟩=false:=fun j=>(ho3.frozen (p:=⟨r2,j,none⟩) (B4.out.lr) (fun e=>e)).trans (b5 j);clear ho3))
  have HW:=h_ (HS6.o _ HO3.o);unfold pV at *
  refine rT 12 ?_;simp only[sD,sE,sF,sG];repeat still_step
  refine wpStill_nil ?_;go_wp2;clear e1 e2 e3 e4 a1 a2 HO3 B4 HS6 HIN3 HB HD HI b2 b3 b5 a4 HO1;generalize w3.setCell ⟨r2,1,none⟩ (.slice none 0 0)=wz at *
  have v1:=HW.o.right.right.blk;have v2:=HW.o.right.right.right.blk;have z1:wz.cell? ⟨r2,0,none⟩=some (.pointer (some ⟨wb,0,none⟩)):=v1.cell 0;have z2:wz.cell? ⟨r,0,none⟩=some (.pointer (some ⟨wx,0,none⟩)):=v2.cell 0;have z3:=v1.lt;have z4:=v2.lt;clear v1 v2;refine wp_region_any (by kernel_rfl) ?_
  try (change wpAny _ _ _ _ _ _ _ (World.drew _))
  refine tF 0 ?_ rfl ?_ (tF 4 ?_ rfl ?_ (tF 1 ?_ rfl ?_ (tF 5 ?_ rfl ?_ (tF 2 ?_ rfl ?_ (tF 6 ?_ rfl ?_ ?_)))));all_goals (try (
   intro w;go_simp<;>(try with_reducible rfl)))
  refine rF [3,7] ?_;refine AllReady.cons rfl (fun K hK=>?_) ?_
  ·go_simp;refine hK _ _ ?_;clear hK K;refine oF 7 rfl fun K hK=>?_
   go_simp;refine hK _ _ ?_;clear hK K;refine oF 8 rfl fun K hK=>?_
   go_simp;go_at_call 191;refine(HALL.o _ _ _ HW.o.drew.drew).mono ?_;rintro e w5 ⟨A5,c5,rfl,hx⟩;have v1:=hx.right.right.right.blk;have y1:w5.cell? ⟨r2,0,none⟩=some (.pointer (some ⟨wb,0,none⟩)):=v1.cell 0;have y3:=v1.lt;have HS:=h_ (hx.perm (show _=wrH wb 96 y*(row 54 2 (.slice A5 xn c5) xn (vS x)*(wrH wx 96 x*(bk r2 296 #[.pointer (some ⟨wb,0,none⟩),.slice none 0 0]*(bk r 296 #[.pointer (some ⟨wx,0,none⟩),.slice none 0 0]*(G*F))))) by ac_rfl));clear hx v1
   refine hK _ _ ?_;clear hK K;refine oF 9 rfl fun K hK=>?_
   go_simp;go_at_call 190;refine(HTK.o _ _ _ _ _ HS.o).mono ?_;rintro e w6 ⟨rfl,hx⟩;have HZ:=h_ (HS7.o w6 T.2 (row 54 2 (.slice A5 xn c5) xn (vS x)) (hx.perm (by ac_rfl)));clear hx
   refine hK _ _ ?_;clear hK K;refine tF 10 ?_ rfl ?_ ?_;all_goals (try (
    intro w;go_simp<;>(try with_reducible rfl)))
   refine dF ?_;go_wp2;go_ret;exact⟨rfl,HZ.o⟩
  refine nF rfl fun K hK=>?_
  ·go_simp;refine hK _ _ ?_;clear hK K;refine rF [3,8] ?_;refine AllReady.cons rfl (fun K hK=>?_) ?_
   ·go_simp;refine hK _ _ ?_;clear hK K;refine oF 8 rfl fun K hK=>?_
    go_simp;go_at_call 191;refine(HALL.o _ _ _ HW.o.drew.drew).mono ?_;rintro e w5 ⟨A5,c5,rfl,hx⟩;have v1:=hx.right.right.right.blk;have y1:w5.cell? ⟨r2,0,none⟩=some (.pointer (some ⟨wb,0,none⟩)):=v1.cell 0;have y3:=v1.lt;have HS:=h_ (hx.perm (show _=wrH wb 96 y*(row 54 2 (.slice A5 xn c5) xn (vS x)*(wrH wx 96 x*(bk r2 296 #[.pointer (some ⟨wb,0,none⟩),.slice none 0 0]*(bk r 296 #[.pointer (some ⟨wx,0,none⟩),.slice none 0 0]*(G*F))))) by ac_rfl));clear hx v1
    refine hK _ _ ?_;clear hK K;refine oF 9 rfl fun K hK=>?_
    go_simp;go_at_call 190;refine(HTK.o _ _ _ _ _ HS.o).mono ?_;rintro e w6 ⟨rfl,hx⟩;have HZ:=h_ (HS7.o w6 T.2 (row 54 2 (.slice A5 xn c5) xn (vS x)) (hx.perm (by ac_rfl)));clear hx
    refine hK _ _ ?_;clear hK K;refine tF 10 ?_ rfl ?_ ?_;all_goals (try (
     intro w;go_simp<;>(try with_reducible rfl)))
    refine dF ?_;go_wp2;go_ret;exact⟨rfl,HZ.o⟩
   refine nF rfl fun K hK=>?_
   ·go_simp;go_at_call 191;refine(HALL.o _ _ _ HW.o.drew.drew).mono ?_;rintro e w5 ⟨A5,c5,rfl,hx⟩;have v1:=hx.right.right.right.blk;have y1:w5.cell? ⟨r2,0,none⟩=some (.pointer (some ⟨wb,0,none⟩)):=v1.cell 0;have y3:=v1.lt;have HS:=h_ (hx.perm (show _=wrH wb 96 y*(row 54 2 (.slice A5 xn c5) xn (vS x)*(wrH wx 96 x*(bk r2 296 #[.pointer (some ⟨wb,0,none⟩),.slice none 0 0]*(bk r 296 #[.pointer (some ⟨wx,0,none⟩),.slice none 0 0]*(G*F))))) by ac_rfl));clear hx v1
    refine hK _ _ ?_;clear hK K;refine oF 3 rfl fun K hK=>?_
    go_simp;refine hK _ _ ?_;clear hK K;refine oF 9 rfl fun K hK=>?_
    go_simp;go_at_call 190;refine(HTK.o _ _ _ _ _ HS.o).mono ?_;rintro e w6 ⟨rfl,hx⟩;have HZ:=h_ (HS7.o w6 T.2 (row 54 2 (.slice A5 xn c5) xn (vS x)) (hx.perm (by ac_rfl)));clear hx
    refine hK _ _ ?_;clear hK K;refine tF 10 ?_ rfl ?_ ?_;all_goals (try (
     intro w;go_simp<;>(try with_reducible rfl)))
    refine dF ?_;go_wp2;go_ret;exact⟨rfl,HZ.o⟩
section
open Go.RowKit Go.Shelf
attribute [local go_sem] Oper.semAt_some
def bo (b:Nat)(o:Obj):HP:=fun h=>h=fun k=>if k=b then some o else none
section
variable {ω w : World} {F : HP}
theorem Sat.getO {b:Nat}{o:Obj}(h:Sat ω w (bo b o*F)):w.heap[b]?=some o:=by
 obtain⟨x,hx,rfl⟩:=h.left.part;exact hx b _ (by simp)
theorem Sat.newO (h:Sat ω w F)(o:Obj):Sat ω (w.alloc o) (bo w.heap.size o*F):=by
 obtain⟨x,hx,hp⟩:=h.part;refine⟨h.os,h.tape,h.output,_,fun k o' hk=>?_,_,x,fun k=>?_,rfl,rfl,hp⟩
 ·by_cases e:k=w.heap.size
  ·subst e;simp at hk;rw[←hk];exact heap_alloc_new w _
  ·simp[e] at hk;have h9:=hx k o' hk;rw[Below.heap_alloc w _ k (Array.getElem?_eq_some_iff.1 h9).1];exact h9
 ·by_cases e:k=w.heap.size
  ·right;subst e;cases hk:x w.heap.size with
   |none=>rfl
   |some o =>
    have:=(Array.getElem?_eq_some_iff.1 (hx _ _ hk)).1
    omega
  ·left;simp[e]
theorem Sat.putO {b:Nat}{o:Obj}(h:Sat ω w (bo b o*F))(o':Obj):Sat ω (w.putObj b o') (bo b o'*F):=by
 have hb:=h.getO;have hlt:=(Array.getElem?_eq_some_iff.1 hb).1;obtain⟨x,hx,a,y,hd,rfl,rfl,hf⟩:=h.part;refine⟨h.os,h.tape,h.output,_,fun k o2 hk=>?_,_,y,fun k=>?_,rfl,rfl,hf⟩
 ·by_cases e:k=b
  ·subst e;simp at hk;rw[←hk];exact World.putObj_heap_same hlt
  ·simp[e] at hk;rw[World.putObj_heap_other e];exact hx k o2 (by simp[e,hk])
 ·have:=hd k
  by_cases e:k=b
  ·right;simp[e] at this;rw[e];exact this
  ·left;simp[e]
end
structure BackC (W:World) (B:Nat) (g cp:Nat) (rs:List Nat):Prop where
 box:W.cell? ⟨B,0,none⟩=some (.slice (some ⟨g,0,none⟩) rs.length cp)
 lB:B<W.heap.size
 lg:g<W.heap.size
 at_:∀i,i<rs.length→W.cell? ⟨g,i,none⟩=some (.pointer (some ⟨rs.getD i 0,0,none⟩))
theorem back_in (ω:World)(n:Nat)(hn:1≤n)(l B g cp:Nat)(rs:List Nat)(h6:rs.length≤1000)(J Jx:Nat→HP)
  (hC:∀k W,Sat ω W (J k)→BackC W B g cp rs)
  (hY:∀k W,k<rs.length→Sat ω W (J k)→YieldAt Fence.wide (n-1) Tryz.prog l #[.int .i64 ((rs.length-1-k:Nat):Int),.pointer (some ⟨rs.getD (rs.length-1-k) 0,0,none⟩)] W fun e W' =>
   (e=.returned (.bool true)∧Sat ω W' (J (k+1)))∨(e=.returned (.bool false)∧Sat ω W' (Jx (k+1))))
  (W:World) (h0:Sat ω W (J 0)):
  CallsIn Fence.wide n Tryz.prog 221 #[.func (.yield l) #[] #[],.pointer (some ⟨B,0,none⟩)] W fun e W'=>(∃v,e=.returned v) ∧
   (Sat ω W' (J rs.length)∨(∃k,k≤rs.length∧Sat ω W' (Jx k))):=by
 obtain⟨N,hN⟩:∃N,rs.length=N:=⟨_,rfl⟩;refine callsIn_of_wp Tryz.func221 rfl trivial ?_ rfl;simp only[Tryz.ntmps221,List.size_toArray,List.length_cons,List.length_nil,Nat.reduceAdd,Nat.reduceSub,Array.replicate_succ,Array.replicate_zero,List.push_toArray,List.append_toArray,List.nil_append,List.cons_append];have HCC:Hid (∀k W,Sat ω W (J k)→W.cell? ⟨B,0,none⟩=some (.slice (some ⟨g,0,none⟩) N cp)∧B<W.heap.size∧g<W.heap.size∧∀i,i<N→W.cell? ⟨g,i,none⟩=some (.pointer (some ⟨rs.getD i 0,0,none⟩))):=h_ (fun k W h=>by
  have h9:=hC k W h;have h8:=h9.box;rw[hN] at h8;exact⟨h8,h9.lB,h9.lg,fun i hi=>h9.at_ i (by omega)⟩)
 obtain⟨c1,c2,c3,c4⟩:=HCC.o 0 W h0;have HY:=h_ hY;have H0:=h_ h0;rw[hN] at HY h6 ⊢;clear c4 hC hY h0 hN
 gi_wp2
 clear c1 c2 c3
 gi_loopw [3] (fun i wr=>∃k:Nat,k≤N∧i=.int .i64 ((N:Int)-1-(k:Int))∧Sat ω wr (J k)) (fun i _=>(intOf i+1).toNat)
 case atStart=>exact⟨0,by omega,by congr 1;first|go_num|(simp;go_num)|(rw[IntKind.wrap_i64];omega),H0.o⟩
 case round =>
  obtain⟨k,hk,rfl,hJ⟩:=hrel;obtain⟨c1,c2,c3,c4⟩:=HCC.o _ _ hJ;by_cases hlt:k<N
  ·have c5:=c4 (N-1-k) (by omega)
   obtain⟨fn,tmps,assign,body,hy,hR⟩:=HY.o k wr hlt hJ;have ei:(N:Int)-1-(k:Int)=((N-1-k:Nat):Int):=by omega
   obtain⟨j,hj⟩:∃j,N-1-k=j:=⟨_,rfl⟩;have hjN:j<N:=by omega
   rw[hj] at ei c5 hy;obtain⟨r,hr⟩:∃r,rs.getD j 0=r:=⟨_,rfl⟩;rw[hr] at c5 hy;clear hr;rw[ei];clear c4 hJ
   gi_wp2
   refine hR.mono ?_;rintro e W3 (⟨rfl,hJ3⟩|⟨rfl,hJx3⟩)
   ·have HJ3:=h_ hJ3;clear hJ3 hy hR c1 c2 c3 c5
    gi_wp2
    go_roundw
    case rel=>exact⟨k+1,by omega,by congr 1;omega,HJ3.o⟩
    case measure=>simp[intOf]
   ·gi_wp2
    refine bodyPost_ret (results_none rfl _ _ _) rfl ?_;exact⟨⟨_,rfl⟩,.inr ⟨k+1,by omega,hJx3⟩⟩
  ·have hkN:k=N:=by omega
   have ei:(N:Int)-1-(k:Int) = -1:=by omega
   rw[ei];have HE:Hid (Sat ω wr (J N)):=h_ (hkN▸hJ);clear c4 hJ
   gi_wp2
   go_end0;exact⟨⟨_,rfl⟩,.inl HE.o⟩
def rangePostS (ω:World)(I Ix:HP):Exit→Act→World→Prop
 | .normal,_,W'=>Sat ω W' I
 | .ret,_,W'=>Sat ω W' Ix
 |_,_,_=>False
theorem wpIn_range_back {ω:World}{n:Nat}{gop:Operand}{ps:Array Tmp}{assign body:Code}{Q:Exit→Act→World→Prop}{a:Act}{w:World}{B g cp:Nat}{rs:List Nat}(h1:2≤n)(h6:rs.length≤1000)
  (hg:a.eval gop=.func (.func 221) #[] #[.pointer (some ⟨B,0,none⟩)]) (hps:ps.size=2)
  (I Ix:Nat→HP) (hC:∀k W P,Sat ω W (P*I k)→BackC W B g cp rs) (h0:Sat ω w (I 0)) (a₁:Nat→Act)
  (hassign:∀(l k:Nat) (W:World) (K:Act→World→Prop),k<rs.length→K (a₁ k) W →
   assign.wpIn (Fence.wide.inRound l) (n-1-1) Tryz.prog (Exit.then K (fun _ _ _=>False)) { tmps:=(ps.zip #[.int .i64 ((rs.length-1-k:Nat):Int),.pointer (some ⟨rs.getD (rs.length-1-k) 0,0,none⟩)]).foldl (fun t (p,v)=>t.setIfInBounds p v) a.tmps,defers:=[] } W)
  (hbody:∀(l k:Nat) (W:World) (L:HP),k<rs.length→Sat ω W (L*I k)→body.wpIn (Fence.wide.inRound l) (n-1-1) Tryz.prog (rangePostS ω (L*I (k+1)) (L*Ix (k+1))) (a₁ k) W)
  (hdone:∀(D:Nat) (W:World),Sat ω W (bo D (.deferred (some []))*I rs.length)→Q .normal { a with defers:={ target:=.collected D,args:=#[] }::a.defers } W)
  (hstop:∀(D k:Nat) (W:World),k≤rs.length→Sat ω W (bo D (.deferred (some []))*Ix k)→Code.ret.wpIn Fence.wide n Tryz.prog Q { a with defers:={ target:=.collected D,args:=#[] }::a.defers } W):
  (Code.rangeFunc gop ps assign body).wpIn Fence.wide n Tryz.prog Q a w:=by
 refine wpIn_rangeFunc ?_;intro fn hfn;obtain⟨rec,hrec⟩:∃rec:LoopState→Option Code→Loop,rec=fun st pe=>{ state:=st,pending:=pe,fn,tmps:=a.tmps,params:=ps,assign,body,defers:=w.heap.size }:=⟨_,rfl⟩
 obtain⟨W1,hW1⟩:∃W1,(w.alloc (.deferred (some []))).alloc (.loop (rec .ready none))=W1:=⟨_,rfl⟩;have hJ0:Sat ω W1 (bo (w.heap.size+1) (.loop (rec .ready none))*(bo w.heap.size (.deferred (some []))*I 0)):=by
  rw[←hW1];have h9:=(h0.newO (.deferred (some []))).newO (.loop (rec .ready none));rw[World.size_alloc] at h9;exact h9
 refine⟨w.heap.size+1,[{ target:=.collected w.heap.size,args:=#[] }],W1,{ target:=.fn (.func 221) #[.pointer (some ⟨B,0,none⟩)],args:=#[.func (.yield (w.heap.size+1)) #[] #[]] },W1,221,
  #[.func (.yield (w.heap.size+1)) #[] #[],.pointer (some ⟨B,0,none⟩)],W1,?_,?_,?_,?_,fun _=>by omega,?_⟩
 ·rw[←hW1,hrec];exact run_enterLoop_outer _ _ _ _ _
 ·simp only[resolve,hg];simp[go_sem]
 ·intro f' hf';exact trivial
 ·have eg:∀args w,(callFunc 221 args).run Tryz.prog w=.ok (.enter 221 args) w:=enters_of Tryz.func221 (by kernel_rfl) rfl
  simp[invoke,go_sem,eg]
 ·refine(back_in ω (n-1) (by omega) (w.heap.size+1) B g cp rs h6
   (fun k=>bo (w.heap.size+1) (.loop (rec .ready none))*(bo w.heap.size (.deferred (some []))*I k))
   (fun k=>bo (w.heap.size+1) (.loop (rec .done (some .ret)))*(bo w.heap.size (.deferred (some []))*Ix k))
   ?_ ?_ W1 hJ0).mono ?_
  ·intro k W hk;exact hC k W _ hk.assoc'
  ·rintro k W hk hJ;have hl:=hJ.getO;have hy:=run_yield (P:=Tryz.prog) (args:=#[.int .i64 ((rs.length-1-k:Nat):Int),.pointer (some ⟨rs.getD (rs.length-1-k) 0,0,none⟩)]) hl (by rw[hrec];exact hps.symm)
   rw[hrec] at hy;refine⟨fn,_,assign,body,hy,roundIn_of_wpIn hfn (hassign _ k W _ hk ?_)⟩;clear hy;refine⟨_,run_beginRound hl (by rw[hrec]),?_⟩
   have hJ2:=(hJ.putO (.loop { rec .ready none with state:=.busy })).assoc'
   refine wpIn_mono (hbody _ k _ _ hk hJ2) ?_;rintro e a3 W3 hp;cases e with
   |normal =>
    have h3:Sat ω W3 _:=Sat.assoc hp;have h4:=run_endRound (P:=Tryz.prog) none h3.getO;have h5:=h3.putO (.loop (rec .ready none));rw[hrec] at h4 h5 ⊢;exact⟨_,_,h4,.inl ⟨rfl,h5⟩⟩
   |ret =>
    have h3:Sat ω W3 _:=Sat.assoc hp;have h4:=run_endRound (P:=Tryz.prog) (some .ret) h3.getO;have h5:=h3.putO (.loop (rec .done (some .ret)));rw[hrec] at h4 h5 ⊢;exact⟨_,_,h4,.inr ⟨rfl,h5⟩⟩
   |exit id=>exact hp.elim
   |goto t=>exact hp.elim
   |panic ch=>exact hp.elim
   |outgrown=>exact hp.elim
  ·rintro e W2 ⟨⟨v,rfl⟩,(hJ|⟨k,hk,hJ⟩)⟩
   ·have h4:=run_endLoop (P:=Tryz.prog) hJ.getO (by rw[hrec];simp)
    have h5:=(hJ.putO (.loop { rec .ready none with state:=.exhausted })).right
    rw[hrec] at h4 h5;exact⟨none,_,h4,hdone _ _ h5⟩
   ·have h4:=run_endLoop (P:=Tryz.prog) hJ.getO (by rw[hrec];simp)
    have h5:=(hJ.putO (.loop { rec .done (some .ret) with state:=.exhausted })).right
    rw[hrec] at h4 h5;exact⟨some .ret,_,h4,hstop _ k _ hk h5⟩
end
end Go.Proofs.YtfodmgaliclhfaaGreatDoor
