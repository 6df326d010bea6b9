/- Lemmas for TopPairs; no conditions. -/
import Derived.Test.YtfodmgaliclhfaaGreatDoorGIpAsk
namespace Go.Proofs.YtfodmgaliclhfaaGreatDoor
set_option linter.unusedVariables false
set_option linter.unusedSimpArgs false
set_option maxRecDepth 100000
set_option maxHeartbeats 8000000
open Go.RowKit
theorem infoPartZ_:(Tryz.prog.info? 346).map (fun i=>(i.zero,i.size,i.bytes))=some (some (.agg #[.int .i64 0,.int .i64 0,.int .u64 0,.int .u64 0,.int .u64 0,.int .u64 0,.int .u64 0,.int .u64 0,.int .u64 0,.int .u64 0,.int .i64 0]),11,88):=by kernel_rfl
theorem ip18 {ω w:World}{P F:HP}{b:Nat}{t:TypeId}{v0 v1 v2 v3 v4 v5 v6 v7 v8 v9 v10 v11 v12 v13 v14 v15 v16 v17 u:Value}(h:Sat ω w (P*(bk b t #[v0,v1,v2,v3,v4,v5,v6,v7,v8,v9,v10,v11,v12,v13,v14,v15,v16,v17,u]*F)))(v:Value):Sat ω (w.setCell ⟨b,18,none⟩ v) (P*(bk b t #[v0,v1,v2,v3,v4,v5,v6,v7,v8,v9,v10,v11,v12,v13,v14,v15,v16,v17,v]*F)):=(h.swap.put 18 v rfl).swap
theorem ip_begin (ω w:World)(F:HP)(b vb:Nat)(x:PIt)(v:PVw)(h:Sat ω w (itH b vb x v*F))(hr:x.regs.length=8)(ho:v.ok)(hn:x.opens.length≤100)(hl:x.out.length≤100)(op:Int)(p:Nat):
  Calls Tryz.prog 251 #[.pointer (some ⟨b,0,none⟩),.int .i64 op,.int .i64 p] w (Rets ω F (.int .i64 ((x.begin v op p).1:Int)) (itH b vb (x.begin v op p).2.1 (x.begin v op p).2.2)):=by
 obtain⟨D,hD,hx⟩:=itH_of h;obtain⟨R,hR⟩:∃R,v.open_=R:=⟨_,rfl⟩;have hE:x.begin v op p=if R.1≠0 then(R.1,x,R.2) else(0,{ x with opens:=x.opens++[⟨op,p,x.regs,x.out.length⟩] },R.2):=by unfold PIt.begin;rw[hR]
 have HO:Hid (Calls Tryz.prog 319 #[.pointer (some ⟨vb,0,none⟩)] w (Rets ω (itX b x D*F) (.int .i64 R.1) (vwH vb R.2))):=h_ (by
  have h9:=vw_open ω w (itX b x D*F) vb v hx.swap ho;rw[hR] at h9;exact h9)
 have c1:w.cell? ⟨b,1,none⟩=some (.pointer (some ⟨vb,0,none⟩)):=by
  have h9:=hx.assoc.blk.cell 1;rw[itC_pre x D 1 (by omega)] at h9
  rw[h9,←hD];rfl
 have lb:=hx.assoc.blk.lt;obtain⟨re,rv⟩:=R;rw[hE];by_cases hre:re=0
 ·subst hre;rw[if_neg (by simp)]
  obtain⟨code,fin,err,regs,out,at_,next,left,opens⟩:=x;obtain⟨r0,r1,r2,r3,r4,r5,r6,r7,rfl⟩:=regs8 hr;obtain⟨pA,pc,mA,mc,oA,oc,vb',sb⟩:=D;simp only at hD hn hl;subst hD;obtain⟨k,hk⟩:∃k,opens.length=k:=⟨_,rfl⟩;obtain⟨N,hN⟩:∃N,out.length=N:=⟨_,rfl⟩;obtain⟨i0,hi0,hz⟩:=Option.map_eq_some_iff.1 infoPartZ_;simp only[Prod.mk.injEq] at hz;obtain⟨hz0,hz1,hz2⟩:=hz;have HI:=h_ hi0;have HZ0:=h_ hz0;have HZ1:=h_ hz1;have HZ2:=h_ hz2;obtain⟨G,hG⟩:∃G,G=row 87 5 (.slice pA code.length pc) code.length (code.flatMap insV)*(row 3 1 (.slice mA (matchP code).length mc) (matchP code).length ((matchP code).map (Value.int .i64))*(vwH vb' rv*F)):=⟨_,rfl⟩;have HX:Hid (∀w1,Sat ω w1 (vwH vb' rv*(itX b ⟨code,fin,err,[r0,r1,r2,r3,r4,r5,r6,r7],out,at_,next,left,opens⟩ ⟨pA,pc,mA,mc,oA,oc,vb',sb⟩*F))→Sat ω w1 (row 346 11 (.slice oA k oc) k (opens.flatMap ptV)*(bk b 245 #[.slice pA code.length pc,pV vb',.slice mA (matchP code).length mc,.int .i64 0,.int .i64 err,.int .i64 fin,.int .u64 r0,.int .u64 r1,.int .u64 r2,.int .u64 r3,.int .u64 r4,.int .u64 r5,.int .u64 r6,.int .u64 r7,pV sb,.int .i64 at_,.int .i64 next,.int .i64 left,.slice oA k oc]*(slH sb out*G)))):=h_ (fun w1 h1=>by
   rw[hG,←hk];exact h1.perm (by unfold itX itC;simp only[List.map_cons,List.map_nil,List.cons_append,List.nil_append];ac_rfl))
  have HLEN:Hid (∀w1 P,Sat ω w1 (P*(slH sb out*G))→Calls Tryz.prog 320 #[.pointer (some ⟨sb,0,none⟩)] w1 fun e w'=>e=.returned (.int .i64 N)∧w'=w1):=h_ (fun w1 P h1=>by
   have h9:=sl_len ω w1 _ sb out h1.right (by omega)
   rw[hN] at h9;exact h9)
  have HFI:Hid (∀w2 A' c',Sat ω w2 (row 346 11 (.slice A' (k+1) c') (k+1) (opens.flatMap ptV++[.int .i64 op,.int .i64 p,.int .u64 r0,.int .u64 r1,.int .u64 r2,.int .u64 r3,.int .u64 r4,.int .u64 r5,.int .u64 r6,.int .u64 r7,.int .i64 N])*(bk b 245 #[.slice pA code.length pc,pV vb',.slice mA (matchP code).length mc,.int .i64 0,.int .i64 err,.int .i64 fin,.int .u64 r0,.int .u64 r1,.int .u64 r2,.int .u64 r3,.int .u64 r4,.int .u64 r5,.int .u64 r6,.int .u64 r7,pV sb,.int .i64 at_,.int .i64 next,.int .i64 left,.slice A' (k+1) c']*(slH sb out*G)))→Sat ω w2 (itH b vb' ⟨code,fin,err,[r0,r1,r2,r3,r4,r5,r6,r7],out,at_,next,left,opens++[⟨op,p,[r0,r1,r2,r3,r4,r5,r6,r7],out.length⟩]⟩ rv*F)):=h_ (fun w2 A' c' h2=>by
   refine itH_to (D:=⟨pA,pc,mA,mc,A',c',vb',sb⟩) rfl ?_;rw[hG] at h2;exact h2.perm (by
    unfold itX itC;simp only[List.map_cons,List.map_nil,List.cons_append,List.nil_append,List.length_append,List.length_singleton,hk,hN,List.flatMap_append,List.flatMap_cons,List.flatMap_nil,ptV,List.append_nil];ac_rfl))
  have HRD:Hid (∀(w1:World),Reads (w1.alloc (.cells #[.int .i64 op,.int .i64 p,.int .u64 r0,.int .u64 r1,.int .u64 r2,.int .u64 r3,.int .u64 r4,.int .u64 r5,.int .u64 r6,.int .u64 r7,.int .i64 N] 346)) (w1.heap.size+1) 11 (some ⟨w1.heap.size,0,none⟩) 1 [.int .i64 op,.int .i64 p,.int .u64 r0,.int .u64 r1,.int .u64 r2,.int .u64 r3,.int .u64 r4,.int .u64 r5,.int .u64 r6,.int .u64 r7,.int .i64 N]):=h_ (fun w1=>by
   have h9:=Reads.of_blk (size:=11) (n:=1) (Blk.new w1 346 #[.int .i64 op,.int .i64 p,.int .u64 r0,.int .u64 r1,.int .u64 r2,.int .u64 r3,.int .u64 r4,.int .u64 r5,.int .u64 r6,.int .u64 r7,.int .i64 N]) rfl;rw[World.size_alloc] at h9;exact h9)
  have HON:Hid (∀u∈[Value.int .i64 op,.int .i64 p,.int .u64 r0,.int .u64 r1,.int .u64 r2,.int .u64 r3,.int .u64 r4,.int .u64 r5,.int .u64 r6,.int .u64 r7,.int .i64 N],u.oneCell'=true):=h_ (by intro u hu;simp at hu;rcases hu with rfl|rfl|rfl|rfl|rfl|rfl|rfl|rfl|rfl|rfl|rfl<;>rfl)
  simp only at HO;have hk100:k≤100:=by omega
  clear h hx hR hE ho hn hl hr hG hi0 hz0 hz1 hz2 hN hk;go_enter Tryz.func251,Tryz.ntmps251;go_wp2_with (go_at_call 319;refine(HO.o).mono ?_;rintro e w1 ⟨rfl,hs⟩;have hy:=HX.o _ hs;have HS:=h_ hy;clear hs hy);have kk:=HS.o.right.blk;have m6:=kk.cell 6;have m7:=kk.cell 7;have m8:=kk.cell 8;have m9:=kk.cell 9;have m10:=kk.cell 10;have m11:=kk.cell 11;have m12:=kk.cell 12;have m13:=kk.cell 13;have m14:w1.cell? ⟨b,14,none⟩=some (.pointer (some ⟨sb,0,none⟩)):=kk.cell 14;have m18:=kk.cell 18;have mf:=kk.frozen;have ml:=kk.lt;have ml1:b<w1.heap.size+1:=by omega
  have m99:∀o,(w1.drew.alloc o).cell? ⟨b,18,none⟩=some (.slice oA k oc):=fun o=>(HS.o.drew.junk o).right.blk.cell 18
  clear kk;refine wp_region_any (by kernel_rfl) ?_
  try (change wpAny _ _ _ _ _ _ _ (World.drew _))
  refine tF 0 ?_ rfl ?_ (tF 1 ?_ rfl ?_ (tF 5 ?_ rfl ?_ (tF 6 ?_ rfl ?_ (tF 7 ?_ rfl ?_ (tF 11 ?_ rfl ?_ (tF 2 ?_ rfl ?_ (tF 8 ?_ rfl ?_ (tF 12 ?_ rfl ?_ (tF 3 ?_ rfl ?_ (tF 9 ?_ rfl ?_ (tF 13 ?_ rfl ?_ ?_)))))))))));all_goals (try (
   intro w;go_simp<;>(try with_reducible rfl)))
  refine rF [4,10,14] ?_;refine AllReady.cons rfl (fun K hK=>?_) ?_
  ·go_simp;refine hK _ _ ?_;clear hK K;refine rF [10,14] ?_;refine AllReady.cons rfl (fun K hK=>?_) ?_
   ·go_simp;refine hK _ _ ?_;clear hK K;refine oF 14 rfl fun K hK=>?_
    go_simp;refine hK _ _ ?_;clear hK K;refine oF 15 rfl fun K hK=>?_
    go_simp;go_at_call 320;refine(HLEN.o _ _ HS.o.drew.assoc').mono ?_;rintro e w9 ⟨rfl,rfl⟩;refine hK _ _ ?_;clear hK K;refine tF 16 ?_ rfl ?_ ?_;all_goals (try (
     intro w;go_simp<;>(try with_reducible rfl)))
    refine oF 17 rfl fun K hK=>?_
    go_simp;refine hK _ _ ?_;clear hK K;refine oF 18 rfl fun K hK=>?_
    refine sap 243 346 11 88 Tryz.underlying243 HI.o HZ0.o HZ1.o HZ2.o (HS.o.drew.junk _) (HRD.o _) HON.o ?_;intro A' c' w2 hs;have kb:=hs.right.blk;have qf:=kb.frozen;have ql:=kb.lt;have q1:=kb.cell 18;have HY:=h_ (ip18 hs (.slice A' (k+1) c'));clear hs kb;refine hK _ _ ?_;clear hK K;refine tF 19 ?_ rfl ?_ (tF 20 ?_ rfl ?_ ?_);all_goals (try (
     intro w;go_simp<;>(try with_reducible rfl)))
    refine oF 21 rfl fun K hK=>?_
    go_simp;refine hK _ _ ?_;clear hK K;refine dF ?_;go_wp2;go_ret;exact⟨rfl,HFI.o _ _ _ HY.o⟩
   refine nF rfl fun K hK=>?_
   ·go_simp;refine hK _ _ ?_;clear hK K;refine rF [10,15] ?_;refine AllReady.cons rfl (fun K hK=>?_) ?_
    ·go_simp;refine hK _ _ ?_;clear hK K;refine oF 15 rfl fun K hK=>?_
     go_simp;go_at_call 320;refine(HLEN.o _ _ HS.o.drew.assoc').mono ?_;rintro e w9 ⟨rfl,rfl⟩;refine hK _ _ ?_;clear hK K;refine tF 16 ?_ rfl ?_ ?_;all_goals (try (
      intro w;go_simp<;>(try with_reducible rfl)))
     refine oF 17 rfl fun K hK=>?_
     go_simp;refine hK _ _ ?_;clear hK K;refine oF 18 rfl fun K hK=>?_
     refine sap 243 346 11 88 Tryz.underlying243 HI.o HZ0.o HZ1.o HZ2.o (HS.o.drew.junk _) (HRD.o _) HON.o ?_;intro A' c' w2 hs;have kb:=hs.right.blk;have qf:=kb.frozen;have ql:=kb.lt;have q1:=kb.cell 18;have HY:=h_ (ip18 hs (.slice A' (k+1) c'));clear hs kb;refine hK _ _ ?_;clear hK K;refine tF 19 ?_ rfl ?_ (tF 20 ?_ rfl ?_ ?_);all_goals (try (
      intro w;go_simp<;>(try with_reducible rfl)))
     refine oF 21 rfl fun K hK=>?_
     go_simp;refine hK _ _ ?_;clear hK K;refine dF ?_;go_wp2;go_ret;exact⟨rfl,HFI.o _ _ _ HY.o⟩
    refine nF rfl fun K hK=>?_
    ·go_simp;go_at_call 320;refine(HLEN.o _ _ HS.o.drew.assoc').mono ?_;rintro e w9 ⟨rfl,rfl⟩;refine hK _ _ ?_;clear hK K;refine oF 10 rfl fun K hK=>?_
     go_simp;refine hK _ _ ?_;clear hK K;refine tF 16 ?_ rfl ?_ ?_;all_goals (try (
      intro w;go_simp<;>(try with_reducible rfl)))
     refine oF 17 rfl fun K hK=>?_
     go_simp;refine hK _ _ ?_;clear hK K;refine oF 18 rfl fun K hK=>?_
     refine sap 243 346 11 88 Tryz.underlying243 HI.o HZ0.o HZ1.o HZ2.o (HS.o.drew.junk _) (HRD.o _) HON.o ?_;intro A' c' w2 hs;have kb:=hs.right.blk;have qf:=kb.frozen;have ql:=kb.lt;have q1:=kb.cell 18;have HY:=h_ (ip18 hs (.slice A' (k+1) c'));clear hs kb;refine hK _ _ ?_;clear hK K;refine tF 19 ?_ rfl ?_ (tF 20 ?_ rfl ?_ ?_);all_goals (try (
      intro w;go_simp<;>(try with_reducible rfl)))
     refine oF 21 rfl fun K hK=>?_
     go_simp;refine hK _ _ ?_;clear hK K;refine dF ?_;go_wp2;go_ret;exact⟨rfl,HFI.o _ _ _ HY.o⟩
  refine AllReady.cons rfl (fun K hK=>?_) ?_
  ·go_simp;refine hK _ _ ?_;clear hK K;refine rF [4,14] ?_;refine AllReady.cons rfl (fun K hK=>?_) ?_
   ·go_simp;refine hK _ _ ?_;clear hK K;refine oF 14 rfl fun K hK=>?_
    go_simp;refine hK _ _ ?_;clear hK K;refine oF 15 rfl fun K hK=>?_
    go_simp;go_at_call 320;refine(HLEN.o _ _ HS.o.drew.assoc').mono ?_;rintro e w9 ⟨rfl,rfl⟩;refine hK _ _ ?_;clear hK K;refine tF 16 ?_ rfl ?_ ?_;all_goals (try (
     intro w;go_simp<;>(try with_reducible rfl)))
    refine oF 17 rfl fun K hK=>?_
    go_simp;refine hK _ _ ?_;clear hK K;refine oF 18 rfl fun K hK=>?_
    refine sap 243 346 11 88 Tryz.underlying243 HI.o HZ0.o HZ1.o HZ2.o (HS.o.drew.junk _) (HRD.o _) HON.o ?_;intro A' c' w2 hs;have kb:=hs.right.blk;have qf:=kb.frozen;have ql:=kb.lt;have q1:=kb.cell 18;have HY:=h_ (ip18 hs (.slice A' (k+1) c'));clear hs kb;refine hK _ _ ?_;clear hK K;refine tF 19 ?_ rfl ?_ (tF 20 ?_ rfl ?_ ?_);all_goals (try (
     intro w;go_simp<;>(try with_reducible rfl)))
    refine oF 21 rfl fun K hK=>?_
    go_simp;refine hK _ _ ?_;clear hK K;refine dF ?_;go_wp2;go_ret;exact⟨rfl,HFI.o _ _ _ HY.o⟩
   refine nF rfl fun K hK=>?_
   ·go_simp;refine hK _ _ ?_;clear hK K;refine rF [4,15] ?_;refine AllReady.cons rfl (fun K hK=>?_) ?_
    ·go_simp;refine hK _ _ ?_;clear hK K;refine oF 15 rfl fun K hK=>?_
     go_simp;go_at_call 320;refine(HLEN.o _ _ HS.o.drew.assoc').mono ?_;rintro e w9 ⟨rfl,rfl⟩;refine hK _ _ ?_;clear hK K;refine tF 16 ?_ rfl ?_ ?_;all_goals (try (
      intro w;go_simp<;>(try with_reducible rfl)))
     refine oF 17 rfl fun K hK=>?_
     go_simp;refine hK _ _ ?_;clear hK K;refine oF 18 rfl fun K hK=>?_
     refine sap 243 346 11 88 Tryz.underlying243 HI.o HZ0.o HZ1.o HZ2.o (HS.o.drew.junk _) (HRD.o _) HON.o ?_;intro A' c' w2 hs;have kb:=hs.right.blk;have qf:=kb.frozen;have ql:=kb.lt;have q1:=kb.cell 18;have HY:=h_ (ip18 hs (.slice A' (k+1) c'));clear hs kb;refine hK _ _ ?_;clear hK K;refine tF 19 ?_ rfl ?_ (tF 20 ?_ rfl ?_ ?_);all_goals (try (
      intro w;go_simp<;>(try with_reducible rfl)))
     refine oF 21 rfl fun K hK=>?_
     go_simp;refine hK _ _ ?_;clear hK K;refine dF ?_;go_wp2;go_ret;exact⟨rfl,HFI.o _ _ _ HY.o⟩
    refine nF rfl fun K hK=>?_
    ·go_simp;go_at_call 320;refine(HLEN.o _ _ HS.o.drew.assoc').mono ?_;rintro e w9 ⟨rfl,rfl⟩;refine hK _ _ ?_;clear hK K;refine tF 16 ?_ rfl ?_ ?_;all_goals (try (
      intro w;go_simp<;>(try with_reducible rfl)))
     refine rF [4,17] ?_;refine AllReady.cons rfl (fun K hK=>?_) ?_
     ·go_simp;refine hK _ _ ?_;clear hK K;refine oF 17 rfl fun K hK=>?_
      go_simp;refine hK _ _ ?_;clear hK K;refine oF 18 rfl fun K hK=>?_
      refine sap 243 346 11 88 Tryz.underlying243 HI.o HZ0.o HZ1.o HZ2.o (HS.o.drew.junk _) (HRD.o _) HON.o ?_;intro A' c' w2 hs;have kb:=hs.right.blk;have qf:=kb.frozen;have ql:=kb.lt;have q1:=kb.cell 18;have HY:=h_ (ip18 hs (.slice A' (k+1) c'));clear hs kb;refine hK _ _ ?_;clear hK K;refine tF 19 ?_ rfl ?_ (tF 20 ?_ rfl ?_ ?_);all_goals (try (
       intro w;go_simp<;>(try with_reducible rfl)))
      refine oF 21 rfl fun K hK=>?_
      go_simp;refine hK _ _ ?_;clear hK K;refine dF ?_;go_wp2;go_ret;exact⟨rfl,HFI.o _ _ _ HY.o⟩
     refine nF rfl fun K hK=>?_
     ·go_simp;refine hK _ _ ?_;clear hK K;refine oF 4 rfl fun K hK=>?_
      go_simp;refine hK _ _ ?_;clear hK K;refine oF 18 rfl fun K hK=>?_
      refine sap 243 346 11 88 Tryz.underlying243 HI.o HZ0.o HZ1.o HZ2.o (HS.o.drew.junk _) (HRD.o _) HON.o ?_;intro A' c' w2 hs;have kb:=hs.right.blk;have qf:=kb.frozen;have ql:=kb.lt;have q1:=kb.cell 18;have HY:=h_ (ip18 hs (.slice A' (k+1) c'));clear hs kb;refine hK _ _ ?_;clear hK K;refine tF 19 ?_ rfl ?_ (tF 20 ?_ rfl ?_ ?_);all_goals (try (
       intro w;go_simp<;>(try with_reducible rfl)))
      refine oF 21 rfl fun K hK=>?_
      go_simp;refine hK _ _ ?_;clear hK K;refine dF ?_;go_wp2;go_ret;exact⟨rfl,HFI.o _ _ _ HY.o⟩
  refine nF rfl fun K hK=>?_
  ·go_simp;refine hK _ _ ?_;clear hK K;refine rF [4,10,15] ?_;refine AllReady.cons rfl (fun K hK=>?_) ?_
   ·go_simp;refine hK _ _ ?_;clear hK K;refine rF [10,15] ?_;refine AllReady.cons rfl (fun K hK=>?_) ?_
    ·go_simp;refine hK _ _ ?_;clear hK K;refine oF 15 rfl fun K hK=>?_
     go_simp;go_at_call 320;refine(HLEN.o _ _ HS.o.drew.assoc').mono ?_;rintro e w9 ⟨rfl,rfl⟩;refine hK _ _ ?_;clear hK K;refine tF 16 ?_ rfl ?_ ?_;all_goals (try (
      intro w;go_simp<;>(try with_reducible rfl)))
     refine oF 17 rfl fun K hK=>?_
     go_simp;refine hK _ _ ?_;clear hK K;refine oF 18 rfl fun K hK=>?_
     refine sap 243 346 11 88 Tryz.underlying243 HI.o HZ0.o HZ1.o HZ2.o (HS.o.drew.junk _) (HRD.o _) HON.o ?_;intro A' c' w2 hs;have kb:=hs.right.blk;have qf:=kb.frozen;have ql:=kb.lt;have q1:=kb.cell 18;have HY:=h_ (ip18 hs (.slice A' (k+1) c'));clear hs kb;refine hK _ _ ?_;clear hK K;refine tF 19 ?_ rfl ?_ (tF 20 ?_ rfl ?_ ?_);all_goals (try (
      intro w;go_simp<;>(try with_reducible rfl)))
     refine oF 21 rfl fun K hK=>?_
     go_simp;refine hK _ _ ?_;clear hK K;refine dF ?_;go_wp2;go_ret;exact⟨rfl,HFI.o _ _ _ HY.o⟩
    refine nF rfl fun K hK=>?_
    ·go_simp;go_at_call 320;refine(HLEN.o _ _ HS.o.drew.assoc').mono ?_;rintro e w9 ⟨rfl,rfl⟩;refine hK _ _ ?_;clear hK K;refine oF 10 rfl fun K hK=>?_
     go_simp;refine hK _ _ ?_;clear hK K;refine tF 16 ?_ rfl ?_ ?_;all_goals (try (
      intro w;go_simp<;>(try with_reducible rfl)))
     refine oF 17 rfl fun K hK=>?_
     go_simp;refine hK _ _ ?_;clear hK K;refine oF 18 rfl fun K hK=>?_
     refine sap 243 346 11 88 Tryz.underlying243 HI.o HZ0.o HZ1.o HZ2.o (HS.o.drew.junk _) (HRD.o _) HON.o ?_;intro A' c' w2 hs;have kb:=hs.right.blk;have qf:=kb.frozen;have ql:=kb.lt;have q1:=kb.cell 18;have HY:=h_ (ip18 hs (.slice A' (k+1) c'));clear hs kb;refine hK _ _ ?_;clear hK K;refine tF 19 ?_ rfl ?_ (tF 20 ?_ rfl ?_ ?_);all_goals (try (
      intro w;go_simp<;>(try with_reducible rfl)))
     refine oF 21 rfl fun K hK=>?_
     go_simp;refine hK _ _ ?_;clear hK K;refine dF ?_;go_wp2;go_ret;exact⟨rfl,HFI.o _ _ _ HY.o⟩
   refine AllReady.cons rfl (fun K hK=>?_) ?_
   ·go_simp;refine hK _ _ ?_;clear hK K;refine rF [4,15] ?_;refine AllReady.cons rfl (fun K hK=>?_) ?_
    ·go_simp;refine hK _ _ ?_;clear hK K;refine oF 15 rfl fun K hK=>?_
     go_simp;go_at_call 320;refine(HLEN.o _ _ HS.o.drew.assoc').mono ?_;rintro e w9 ⟨rfl,rfl⟩;refine hK _ _ ?_;clear hK K;refine tF 16 ?_ rfl ?_ ?_;all_goals (try (
      intro w;go_simp<;>(try with_reducible rfl)))
     refine oF 17 rfl fun K hK=>?_
     go_simp;refine hK _ _ ?_;clear hK K;refine oF 18 rfl fun K hK=>?_
     refine sap 243 346 11 88 Tryz.underlying243 HI.o HZ0.o HZ1.o HZ2.o (HS.o.drew.junk _) (HRD.o _) HON.o ?_;intro A' c' w2 hs;have kb:=hs.right.blk;have qf:=kb.frozen;have ql:=kb.lt;have q1:=kb.cell 18;have HY:=h_ (ip18 hs (.slice A' (k+1) c'));clear hs kb;refine hK _ _ ?_;clear hK K;refine tF 19 ?_ rfl ?_ (tF 20 ?_ rfl ?_ ?_);all_goals (try (
      intro w;go_simp<;>(try with_reducible rfl)))
     refine oF 21 rfl fun K hK=>?_
     go_simp;refine hK _ _ ?_;clear hK K;refine dF ?_;go_wp2;go_ret;exact⟨rfl,HFI.o _ _ _ HY.o⟩
    refine nF rfl fun K hK=>?_
    ·go_simp;go_at_call 320;refine(HLEN.o _ _ HS.o.drew.assoc').mono ?_;rintro e w9 ⟨rfl,rfl⟩;refine hK _ _ ?_;clear hK K;refine tF 16 ?_ rfl ?_ ?_;all_goals (try (
      intro w;go_simp<;>(try with_reducible rfl)))
     refine rF [4,17] ?_;refine AllReady.cons rfl (fun K hK=>?_) ?_
     ·go_simp;refine hK _ _ ?_;clear hK K;refine oF 17 rfl fun K hK=>?_
      go_simp;refine hK _ _ ?_;clear hK K;refine oF 18 rfl fun K hK=>?_
      refine sap 243 346 11 88 Tryz.underlying243 HI.o HZ0.o HZ1.o HZ2.o (HS.o.drew.junk _) (HRD.o _) HON.o ?_;intro A' c' w2 hs;have kb:=hs.right.blk;have qf:=kb.frozen;have ql:=kb.lt;have q1:=kb.cell 18;have HY:=h_ (ip18 hs (.slice A' (k+1) c'));clear hs kb;refine hK _ _ ?_;clear hK K;refine tF 19 ?_ rfl ?_ (tF 20 ?_ rfl ?_ ?_);all_goals (try (
       intro w;go_simp<;>(try with_reducible rfl)))
      refine oF 21 rfl fun K hK=>?_
      go_simp;refine hK _ _ ?_;clear hK K;refine dF ?_;go_wp2;go_ret;exact⟨rfl,HFI.o _ _ _ HY.o⟩
     refine nF rfl fun K hK=>?_
     ·go_simp;refine hK _ _ ?_;clear hK K;refine oF 4 rfl fun K hK=>?_
      go_simp;refine hK _ _ ?_;clear hK K;refine oF 18 rfl fun K hK=>?_
      refine sap 243 346 11 88 Tryz.underlying243 HI.o HZ0.o HZ1.o HZ2.o (HS.o.drew.junk _) (HRD.o _) HON.o ?_;intro A' c' w2 hs;have kb:=hs.right.blk;have qf:=kb.frozen;have ql:=kb.lt;have q1:=kb.cell 18;have HY:=h_ (ip18 hs (.slice A' (k+1) c'));clear hs kb;refine hK _ _ ?_;clear hK K;refine tF 19 ?_ rfl ?_ (tF 20 ?_ rfl ?_ ?_);all_goals (try (
       intro w;go_simp<;>(try with_reducible rfl)))
      refine oF 21 rfl fun K hK=>?_
      go_simp;refine hK _ _ ?_;clear hK K;refine dF ?_;go_wp2;go_ret;exact⟨rfl,HFI.o _ _ _ HY.o⟩
   refine nF rfl fun K hK=>?_
   ·go_simp;go_at_call 320;refine(HLEN.o _ _ HS.o.drew.assoc').mono ?_;rintro e w9 ⟨rfl,rfl⟩;refine hK _ _ ?_;clear hK K;refine rF [4,10] ?_;refine AllReady.cons rfl (fun K hK=>?_) ?_
    ·go_simp;refine hK _ _ ?_;clear hK K;refine oF 10 rfl fun K hK=>?_
     go_simp;refine hK _ _ ?_;clear hK K;refine tF 16 ?_ rfl ?_ ?_;all_goals (try (
      intro w;go_simp<;>(try with_reducible rfl)))
     refine oF 17 rfl fun K hK=>?_
     go_simp;refine hK _ _ ?_;clear hK K;refine oF 18 rfl fun K hK=>?_
     refine sap 243 346 11 88 Tryz.underlying243 HI.o HZ0.o HZ1.o HZ2.o (HS.o.drew.junk _) (HRD.o _) HON.o ?_;intro A' c' w2 hs;have kb:=hs.right.blk;have qf:=kb.frozen;have ql:=kb.lt;have q1:=kb.cell 18;have HY:=h_ (ip18 hs (.slice A' (k+1) c'));clear hs kb;refine hK _ _ ?_;clear hK K;refine tF 19 ?_ rfl ?_ (tF 20 ?_ rfl ?_ ?_);all_goals (try (
      intro w;go_simp<;>(try with_reducible rfl)))
     refine oF 21 rfl fun K hK=>?_
     go_simp;refine hK _ _ ?_;clear hK K;refine dF ?_;go_wp2;go_ret;exact⟨rfl,HFI.o _ _ _ HY.o⟩
    refine nF rfl fun K hK=>?_
    ·go_simp;refine hK _ _ ?_;clear hK K;refine tF 16 ?_ rfl ?_ ?_;all_goals (try (
      intro w;go_simp<;>(try with_reducible rfl)))
     refine rF [4,17] ?_;refine AllReady.cons rfl (fun K hK=>?_) ?_
     ·go_simp;refine hK _ _ ?_;clear hK K;refine oF 17 rfl fun K hK=>?_
      go_simp;refine hK _ _ ?_;clear hK K;refine oF 18 rfl fun K hK=>?_
      refine sap 243 346 11 88 Tryz.underlying243 HI.o HZ0.o HZ1.o HZ2.o (HS.o.drew.junk _) (HRD.o _) HON.o ?_;intro A' c' w2 hs;have kb:=hs.right.blk;have qf:=kb.frozen;have ql:=kb.lt;have q1:=kb.cell 18;have HY:=h_ (ip18 hs (.slice A' (k+1) c'));clear hs kb;refine hK _ _ ?_;clear hK K;refine tF 19 ?_ rfl ?_ (tF 20 ?_ rfl ?_ ?_);all_goals (try (
       intro w;go_simp<;>(try with_reducible rfl)))
      refine oF 21 rfl fun K hK=>?_
      go_simp;refine hK _ _ ?_;clear hK K;refine dF ?_;go_wp2;go_ret;exact⟨rfl,HFI.o _ _ _ HY.o⟩
     refine nF rfl fun K hK=>?_
     ·go_simp;refine hK _ _ ?_;clear hK K;refine oF 4 rfl fun K hK=>?_
      go_simp;refine hK _ _ ?_;clear hK K;refine oF 18 rfl fun K hK=>?_
      refine sap 243 346 11 88 Tryz.underlying243 HI.o HZ0.o HZ1.o HZ2.o (HS.o.drew.junk _) (HRD.o _) HON.o ?_;intro A' c' w2 hs;have kb:=hs.right.blk;have qf:=kb.frozen;have ql:=kb.lt;have q1:=kb.cell 18;have HY:=h_ (ip18 hs (.slice A' (k+1) c'));clear hs kb;refine hK _ _ ?_;clear hK K;refine tF 19 ?_ rfl ?_ (tF 20 ?_ rfl ?_ ?_);all_goals (try (
       intro w;go_simp<;>(try with_reducible rfl)))
      refine oF 21 rfl fun K hK=>?_
      go_simp;refine hK _ _ ?_;clear hK K;refine dF ?_;go_wp2;go_ret;exact⟨rfl,HFI.o _ _ _ HY.o⟩
 ·rw[if_pos hre];have d1:((re:Int) != 0)=true:=by simpa using hre
  have d2:((re:Int)==0)=false:=by simpa using hre
  have HF:Hid (∀w1,Sat ω w1 (vwH vb rv*(itX b x D*F))→Sat ω w1 (itH b vb x rv*F)):=h_ (fun w1 h1=>itH_to hD h1.swap)
  simp only at HO;clear h hx hD hR hE hre ho hn hl hr;go_enter Tryz.func251,Tryz.ntmps251;go_wp2_with (go_at_call 319;refine(HO.o).mono ?_;rintro e w1 ⟨rfl,hs⟩;have HS:=h_ hs;clear hs);go_ret;exact⟨rfl,HF.o _ HS.o⟩
theorem Sat.rowLast {ω w:World}{F:HP}{e:TypeId}{size n c:Nat}{A:Option Addr}{xs ys:List Value}(h:Sat ω w (row e size (.slice A (n+1) c) (n+1) (xs++ys)*F))(hx:xs.length=n*size)(hy:ys.length=size):
  ∃g,A=some ⟨g,0,none⟩∧g<w.heap.size∧∀j,j<size→w.cell? ⟨g,n*size+j,none⟩=ys[j]?:=by
 rcases h.cases with⟨h1,h2,_⟩|⟨g,cap,cur,h2,h3,h4,h5,h6,h7,h8⟩
 ·omega
 ·injection h2 with h2 _ _
  refine⟨g,h2,h8.blk.lt,fun j hj=>?_⟩
  have e1:(xs++ys)[n*size+j]?=ys[j]?:=by
   rw[List.getElem?_append_right (by omega),hx]
   congr 1
   omega
  rw[h8.blk.cell,←e1,←h6,List.getElem?_take,if_pos ?_]
  ·simp
  ·rw[Nat.succ_mul];omega
theorem ptV_len (l:List PPt)(h:∀p∈l,p.regs.length=8):(l.flatMap ptV).length=l.length*11:=by
 induction l with
 |nil=>rfl
 |cons p l ih =>
  have h1:=h p List.mem_cons_self;have h2:=ih (fun q hq=>h q (List.mem_cons_of_mem _ hq))
  simp only[List.flatMap_cons,List.length_append,h2,ptV,List.length_map,h1,List.length_cons,List.length_nil];omega
theorem ip_leave (ω w:World)(F:HP)(b vb:Nat)(x:PIt)(v:PVw)(h:Sat ω w (itH b vb x v*F))(hr:x.regs.length=8)(l:List PPt)(pt:PPt)(hp:x.opens=l++[pt])(hr2:pt.regs.length=8)(hall:∀p∈l,p.regs.length=8)(hn:l.length≤100):
  Calls Tryz.prog 252 #[.pointer (some ⟨b,0,none⟩)] w (Rets ω F (.agg (ptV pt).toArray) (itH b vb { x with opens:=l } v)):=by
 obtain⟨D,hD,hx⟩:=itH_of h;obtain⟨pA,pc,mA,mc,oA,oc,vb',sb⟩:=D;simp only at hD;subst hD;obtain⟨code,fin,err,regs,out,at_,next,left,opens⟩:=x;simp only at hr hp;subst hp;obtain⟨p0,p1,preg,p3⟩:=pt;simp only at hr2;obtain⟨r0,r1,r2,r3,r4,r5,r6,r7,rfl⟩:=regs8 hr2;obtain⟨k,hk⟩:∃k,l.length=k:=⟨_,rfl⟩;have hlen:(l++[(⟨p0,p1,[r0,r1,r2,r3,r4,r5,r6,r7],p3⟩:PPt)]).length=k+1:=by simp[hk]
 have c18:w.cell? ⟨b,18,none⟩=some (.slice oA (k+1) oc):=by
  have h9:=hx.assoc.blk.cell 18;rw[show(18:Nat)=14+4 from rfl,itC_post _ _ 4 hr (by omega)] at h9
  simp only[hlen] at h9;exact h9
 have lb:=hx.assoc.blk.lt;have fz:=hx.assoc.blk.frozen;have hROW:Sat ω w (row 346 11 (.slice oA (k+1) oc) (k+1) (l.flatMap ptV++ptV ⟨p0,p1,[r0,r1,r2,r3,r4,r5,r6,r7],p3⟩)*(bk b 245 (itC ⟨code,fin,err,regs,out,at_,next,left,l++[⟨p0,p1,[r0,r1,r2,r3,r4,r5,r6,r7],p3⟩]⟩ ⟨pA,pc,mA,mc,oA,oc,vb',sb⟩)*(row 87 5 (.slice pA code.length pc) code.length (code.flatMap insV)*(row 3 1 (.slice mA (matchP code).length mc) (matchP code).length ((matchP code).map (Value.int .i64))*(slH sb out*(vwH vb' v*F)))))):=by
  have e:(l++[(⟨p0,p1,[r0,r1,r2,r3,r4,r5,r6,r7],p3⟩:PPt)]).flatMap ptV=l.flatMap ptV++ptV ⟨p0,p1,[r0,r1,r2,r3,r4,r5,r6,r7],p3⟩:=by simp
  unfold itX at hx;simp only[hlen,e] at hx;exact hx.perm (by ac_rfl)
 obtain⟨g,rfl,lg,hc⟩:=hROW.rowLast (by rw[ptV_len l hall,hk]) rfl
 have q0:w.cell? ⟨g,k*11,none⟩=some (.int .i64 p0):=hc 0 (by omega)
 have q1:w.cell? ⟨g,k*11+1,none⟩=some (.int .i64 p1):=hc 1 (by omega)
 have q2:w.cell? ⟨g,k*11+2,none⟩=some (.int .u64 r0):=hc 2 (by omega)
 have q3:w.cell? ⟨g,k*11+3,none⟩=some (.int .u64 r1):=hc 3 (by omega)
 have q4:w.cell? ⟨g,k*11+4,none⟩=some (.int .u64 r2):=hc 4 (by omega)
 have q5:w.cell? ⟨g,k*11+5,none⟩=some (.int .u64 r3):=hc 5 (by omega)
 have q6:w.cell? ⟨g,k*11+6,none⟩=some (.int .u64 r4):=hc 6 (by omega)
 have q7:w.cell? ⟨g,k*11+7,none⟩=some (.int .u64 r5):=hc 7 (by omega)
 have q8:w.cell? ⟨g,k*11+8,none⟩=some (.int .u64 r6):=hc 8 (by omega)
 have q9:w.cell? ⟨g,k*11+9,none⟩=some (.int .u64 r7):=hc 9 (by omega)
 have q10:w.cell? ⟨g,k*11+10,none⟩=some (.int .i64 p3):=hc 10 (by omega)
 have hkc:k≤oc:=by
  rcases hROW.cases with⟨h1,h2,_⟩|⟨_,cap,_,h1,h2,_⟩
  ·omega
  ·injection h1 with _ _ h1;omega
 have HFI:Hid (∀w2 P,Sat ω w2 (P*(row 346 11 (.slice (some ⟨g,0,none⟩) (k+1) oc) (k+1) (l.flatMap ptV++ptV ⟨p0,p1,[r0,r1,r2,r3,r4,r5,r6,r7],p3⟩)*(bk b 245 (itC ⟨code,fin,err,regs,out,at_,next,left,l++[⟨p0,p1,[r0,r1,r2,r3,r4,r5,r6,r7],p3⟩]⟩ ⟨pA,pc,mA,mc,some ⟨g,0,none⟩,oc,vb',sb⟩)*(row 87 5 (.slice pA code.length pc) code.length (code.flatMap insV)*(row 3 1 (.slice mA (matchP code).length mc) (matchP code).length ((matchP code).map (Value.int .i64))*(slH sb out*(vwH vb' v*F)))))))→Sat ω (w2.setCell ⟨b,18,none⟩ (.slice (some ⟨g,0,none⟩) k oc)) (P*(itH b vb' ⟨code,fin,err,regs,out,at_,next,left,l⟩ v*F))):=h_ (fun w2 P h1=>by
  have h2:=h1.swap.rowCut (m:=k) (by omega)
  rw[List.take_left' (by rw[ptV_len l hall,hk])] at h2
  have h3:Sat ω w2 (bk b 245 (itC ⟨code,fin,err,regs,out,at_,next,left,l++[⟨p0,p1,[r0,r1,r2,r3,r4,r5,r6,r7],p3⟩]⟩ ⟨pA,pc,mA,mc,some ⟨g,0,none⟩,oc,vb',sb⟩)*(row 346 11 (.slice (some ⟨g,0,none⟩) k oc) k (l.flatMap ptV)*(P*(row 87 5 (.slice pA code.length pc) code.length (code.flatMap insV)*(row 3 1 (.slice mA (matchP code).length mc) (matchP code).length ((matchP code).map (Value.int .i64))*(slH sb out*(vwH vb' v*F))))))):=h2.perm (by ac_rfl)
  have h4:=h3.put 18 (.slice (some ⟨g,0,none⟩) k oc) (cs':=itC ⟨code,fin,err,regs,out,at_,next,left,l⟩ ⟨pA,pc,mA,mc,some ⟨g,0,none⟩,oc,vb',sb⟩) (by
   obtain⟨s0,s1,s2,s3,s4,s5,s6,s7,rfl⟩:=regs8 hr;simp[itC,hk])
  have h5:Sat ω _ (itX b ⟨code,fin,err,regs,out,at_,next,left,l⟩ ⟨pA,pc,mA,mc,some ⟨g,0,none⟩,oc,vb',sb⟩*(vwH vb' v*(P*F))):=h4.perm (by unfold itX;simp only[hk];ac_rfl)
  exact(itH_to rfl h5).swap)
 have HB:=h_ hROW;have hw:IntKind.i64.wrap (k:Int)=(k:Int):=by rw[IntKind.wrap_i64];omega
 have hm0:∀o o2,((w.alloc o).alloc o2).cell? ⟨b,18,none⟩=some (.slice (some ⟨g,0,none⟩) (k+1) oc):=fun o o2=>by
  have h9:=((HB.o.junk o).junk o2).right.blk.cell 18;rw[show(18:Nat)=14+4 from rfl,itC_post _ _ 4 hr (by omega)] at h9
  simp only[hlen] at h9;exact h9
 have hlt:(k:Int)<(k:Int)+1:=by omega
 have lb1:b<w.heap.size+1:=by omega
 have lb2:b<w.heap.size+1+1:=by omega
 have lg2:g<w.heap.size+1+1:=by omega
 have lg1:g<w.heap.size+1:=by omega
 clear h hx hc hROW hlen hall hr hr2 hk;go_enter Tryz.func252,Tryz.ntmps252;go_wp2;refine wp_region_any (by kernel_rfl) ?_
 try (change wpAny _ _ _ _ _ _ _ (World.drew _))
 refine tF 0 ?_ rfl ?_ (tF 4 ?_ rfl ?_ (tF 1 ?_ rfl ?_ (tF 5 ?_ rfl ?_ (tF 2 ?_ rfl ?_ (tF 6 ?_ rfl ?_ ?_)))));all_goals (try (
  intro w;go_simp<;>(try with_reducible rfl)))
 refine rF [3,7,12] ?_;refine AllReady.cons rfl (fun K hK=>?_) ?_
 ·go_simp;refine hK _ _ ?_;clear hK K;refine rF [7,12] ?_;refine AllReady.cons rfl (fun K hK=>?_) ?_
  ·go_simp;refine hK _ _ ?_;clear hK K;refine tF 8 ?_ rfl ?_ (tF 9 ?_ rfl ?_ ?_);all_goals (try (
    intro w;go_simp<;>(try with_reducible rfl)))
   refine rF [10,12] ?_;refine AllReady.cons rfl (fun K hK=>?_) ?_
   ·go_simp;refine hK _ _ ?_;clear hK K;refine rF [11,12] ?_;refine AllReady.cons rfl (fun K hK=>?_) ?_
    ·go_simp;refine hK _ _ ?_;clear hK K;refine oF 12 rfl fun K hK=>?_
     go_simp;refine hK _ _ ?_;clear hK K;refine oF 13 rfl fun K hK=>?_
     go_simp;refine hK _ _ ?_;clear hK K;refine dF ?_;go_wp2;refine rT 14 ?_;simp only[sD,sE,sF,sG];repeat still_step
     refine wpStill_nil ?_;go_wp2;refine bodyPost_ret (v:=.agg #[.int .i64 p0,.int .i64 p1,.int .u64 r0,.int .u64 r1,.int .u64 r2,.int .u64 r3,.int .u64 r4,.int .u64 r5,.int .u64 r6,.int .u64 r7,.int .i64 p3]) (by simp[results,Tryz.results252,go_sem]) rfl ⟨rfl,?_⟩
     exact(((((HFI.o w emp HB.o.emp_).perm (emp_star _)).junk _).junk _).drew).drew
    refine nF rfl fun K hK=>?_
    ·go_simp;refine hK _ _ ?_;clear hK K;refine oF 11 rfl fun K hK=>?_
     go_simp;refine hK _ _ ?_;clear hK K;refine oF 13 rfl fun K hK=>?_
     go_simp;refine hK _ _ ?_;clear hK K;refine dF ?_;go_wp2;refine rT 14 ?_;simp only[sD,sE,sF,sG];repeat still_step
     refine wpStill_nil ?_;go_wp2;refine bodyPost_ret (v:=.agg #[.int .i64 p0,.int .i64 p1,.int .u64 r0,.int .u64 r1,.int .u64 r2,.int .u64 r3,.int .u64 r4,.int .u64 r5,.int .u64 r6,.int .u64 r7,.int .i64 p3]) (by simp[results,Tryz.results252,go_sem]) rfl ⟨rfl,?_⟩
     exact(((((HFI.o w emp HB.o.emp_).perm (emp_star _)).junk _).junk _).drew).drew
   refine nF rfl fun K hK=>?_
   ·go_simp;refine hK _ _ ?_;clear hK K;refine oF 10 rfl fun K hK=>?_
    go_simp;refine hK _ _ ?_;clear hK K;refine oF 11 rfl fun K hK=>?_
    go_simp;refine hK _ _ ?_;clear hK K;refine oF 13 rfl fun K hK=>?_
    go_simp;refine hK _ _ ?_;clear hK K;refine dF ?_;go_wp2;refine rT 14 ?_;simp only[sD,sE,sF,sG];repeat still_step
    refine wpStill_nil ?_;go_wp2;refine bodyPost_ret (v:=.agg #[.int .i64 p0,.int .i64 p1,.int .u64 r0,.int .u64 r1,.int .u64 r2,.int .u64 r3,.int .u64 r4,.int .u64 r5,.int .u64 r6,.int .u64 r7,.int .i64 p3]) (by simp[results,Tryz.results252,go_sem]) rfl ⟨rfl,?_⟩
    exact(((((HFI.o w emp HB.o.emp_).perm (emp_star _)).junk _).junk _).drew).drew
  refine nF rfl fun K hK=>?_
  ·go_simp;refine hK _ _ ?_;clear hK K;refine oF 7 rfl fun K hK=>?_
   go_simp;refine hK _ _ ?_;clear hK K;refine tF 8 ?_ rfl ?_ (tF 9 ?_ rfl ?_ ?_);all_goals (try (
    intro w;go_simp<;>(try with_reducible rfl)))
   refine oF 10 rfl fun K hK=>?_
   go_simp;refine hK _ _ ?_;clear hK K;refine oF 11 rfl fun K hK=>?_
   go_simp;refine hK _ _ ?_;clear hK K;refine oF 13 rfl fun K hK=>?_
   go_simp;refine hK _ _ ?_;clear hK K;refine dF ?_;go_wp2;refine rT 14 ?_;simp only[sD,sE,sF,sG];repeat still_step
   refine wpStill_nil ?_;go_wp2;refine bodyPost_ret (v:=.agg #[.int .i64 p0,.int .i64 p1,.int .u64 r0,.int .u64 r1,.int .u64 r2,.int .u64 r3,.int .u64 r4,.int .u64 r5,.int .u64 r6,.int .u64 r7,.int .i64 p3]) (by simp[results,Tryz.results252,go_sem]) rfl ⟨rfl,?_⟩
   exact(((((HFI.o w emp HB.o.emp_).perm (emp_star _)).junk _).junk _).drew).drew
 refine AllReady.cons rfl (fun K hK=>?_) ?_
 ·go_simp;refine hK _ _ ?_;clear hK K;refine tF 8 ?_ rfl ?_ (tF 9 ?_ rfl ?_ ?_);all_goals (try (
   intro w;go_simp<;>(try with_reducible rfl)))
  refine rF [3,12] ?_;refine AllReady.cons rfl (fun K hK=>?_) ?_
  ·go_simp;refine hK _ _ ?_;clear hK K;refine rF [10,12] ?_;refine AllReady.cons rfl (fun K hK=>?_) ?_
   ·go_simp;refine hK _ _ ?_;clear hK K;refine rF [11,12] ?_;refine AllReady.cons rfl (fun K hK=>?_) ?_
    ·go_simp;refine hK _ _ ?_;clear hK K;refine oF 12 rfl fun K hK=>?_
     go_simp;refine hK _ _ ?_;clear hK K;refine oF 13 rfl fun K hK=>?_
     go_simp;refine hK _ _ ?_;clear hK K;refine dF ?_;go_wp2;refine rT 14 ?_;simp only[sD,sE,sF,sG];repeat still_step
     refine wpStill_nil ?_;go_wp2;refine bodyPost_ret (v:=.agg #[.int .i64 p0,.int .i64 p1,.int .u64 r0,.int .u64 r1,.int .u64 r2,.int .u64 r3,.int .u64 r4,.int .u64 r5,.int .u64 r6,.int .u64 r7,.int .i64 p3]) (by simp[results,Tryz.results252,go_sem]) rfl ⟨rfl,?_⟩
     exact(((((HFI.o w emp HB.o.emp_).perm (emp_star _)).junk _).junk _).drew).drew
    refine nF rfl fun K hK=>?_
    ·go_simp;refine hK _ _ ?_;clear hK K;refine oF 11 rfl fun K hK=>?_
     go_simp;refine hK _ _ ?_;clear hK K;refine oF 13 rfl fun K hK=>?_
     go_simp;refine hK _ _ ?_;clear hK K;refine dF ?_;go_wp2;refine rT 14 ?_;simp only[sD,sE,sF,sG];repeat still_step
     refine wpStill_nil ?_;go_wp2;refine bodyPost_ret (v:=.agg #[.int .i64 p0,.int .i64 p1,.int .u64 r0,.int .u64 r1,.int .u64 r2,.int .u64 r3,.int .u64 r4,.int .u64 r5,.int .u64 r6,.int .u64 r7,.int .i64 p3]) (by simp[results,Tryz.results252,go_sem]) rfl ⟨rfl,?_⟩
     exact(((((HFI.o w emp HB.o.emp_).perm (emp_star _)).junk _).junk _).drew).drew
   refine nF rfl fun K hK=>?_
   ·go_simp;refine hK _ _ ?_;clear hK K;refine oF 10 rfl fun K hK=>?_
    go_simp;refine hK _ _ ?_;clear hK K;refine oF 11 rfl fun K hK=>?_
    go_simp;refine hK _ _ ?_;clear hK K;refine oF 13 rfl fun K hK=>?_
    go_simp;refine hK _ _ ?_;clear hK K;refine dF ?_;go_wp2;refine rT 14 ?_;simp only[sD,sE,sF,sG];repeat still_step
    refine wpStill_nil ?_;go_wp2;refine bodyPost_ret (v:=.agg #[.int .i64 p0,.int .i64 p1,.int .u64 r0,.int .u64 r1,.int .u64 r2,.int .u64 r3,.int .u64 r4,.int .u64 r5,.int .u64 r6,.int .u64 r7,.int .i64 p3]) (by simp[results,Tryz.results252,go_sem]) rfl ⟨rfl,?_⟩
    exact(((((HFI.o w emp HB.o.emp_).perm (emp_star _)).junk _).junk _).drew).drew
  refine nF rfl fun K hK=>?_
  ·go_simp;refine hK _ _ ?_;clear hK K;refine oF 3 rfl fun K hK=>?_
   go_simp;refine hK _ _ ?_;clear hK K;refine oF 10 rfl fun K hK=>?_
   go_simp;refine hK _ _ ?_;clear hK K;refine oF 11 rfl fun K hK=>?_
   go_simp;refine hK _ _ ?_;clear hK K;refine oF 13 rfl fun K hK=>?_
   go_simp;refine hK _ _ ?_;clear hK K;refine dF ?_;go_wp2;refine rT 14 ?_;simp only[sD,sE,sF,sG];repeat still_step
   refine wpStill_nil ?_;go_wp2;refine bodyPost_ret (v:=.agg #[.int .i64 p0,.int .i64 p1,.int .u64 r0,.int .u64 r1,.int .u64 r2,.int .u64 r3,.int .u64 r4,.int .u64 r5,.int .u64 r6,.int .u64 r7,.int .i64 p3]) (by simp[results,Tryz.results252,go_sem]) rfl ⟨rfl,?_⟩
   exact(((((HFI.o w emp HB.o.emp_).perm (emp_star _)).junk _).junk _).drew).drew
 refine nF rfl fun K hK=>?_
 ·go_simp;refine hK _ _ ?_;clear hK K;refine rF [3,7] ?_;refine AllReady.cons rfl (fun K hK=>?_) ?_
  ·go_simp;refine hK _ _ ?_;clear hK K;refine oF 7 rfl fun K hK=>?_
   go_simp;refine hK _ _ ?_;clear hK K;refine tF 8 ?_ rfl ?_ (tF 9 ?_ rfl ?_ ?_);all_goals (try (
    intro w;go_simp<;>(try with_reducible rfl)))
   refine oF 10 rfl fun K hK=>?_
   go_simp;refine hK _ _ ?_;clear hK K;refine oF 11 rfl fun K hK=>?_
   go_simp;refine hK _ _ ?_;clear hK K;refine oF 13 rfl fun K hK=>?_
   go_simp;refine hK _ _ ?_;clear hK K;refine dF ?_;go_wp2;refine rT 14 ?_;simp only[sD,sE,sF,sG];repeat still_step
   refine wpStill_nil ?_;go_wp2;refine bodyPost_ret (v:=.agg #[.int .i64 p0,.int .i64 p1,.int .u64 r0,.int .u64 r1,.int .u64 r2,.int .u64 r3,.int .u64 r4,.int .u64 r5,.int .u64 r6,.int .u64 r7,.int .i64 p3]) (by simp[results,Tryz.results252,go_sem]) rfl ⟨rfl,?_⟩
   exact(((((HFI.o w emp HB.o.emp_).perm (emp_star _)).junk _).junk _).drew).drew
  refine nF rfl fun K hK=>?_
  ·go_simp;refine hK _ _ ?_;clear hK K;refine tF 8 ?_ rfl ?_ (tF 9 ?_ rfl ?_ ?_);all_goals (try (
    intro w;go_simp<;>(try with_reducible rfl)))
   refine oF 3 rfl fun K hK=>?_
   go_simp;refine hK _ _ ?_;clear hK K;refine oF 10 rfl fun K hK=>?_
   go_simp;refine hK _ _ ?_;clear hK K;refine oF 11 rfl fun K hK=>?_
   go_simp;refine hK _ _ ?_;clear hK K;refine oF 13 rfl fun K hK=>?_
   go_simp;refine hK _ _ ?_;clear hK K;refine dF ?_;go_wp2;refine rT 14 ?_;simp only[sD,sE,sF,sG];repeat still_step
   refine wpStill_nil ?_;go_wp2;refine bodyPost_ret (v:=.agg #[.int .i64 p0,.int .i64 p1,.int .u64 r0,.int .u64 r1,.int .u64 r2,.int .u64 r3,.int .u64 r4,.int .u64 r5,.int .u64 r6,.int .u64 r7,.int .i64 p3]) (by simp[results,Tryz.results252,go_sem]) rfl ⟨rfl,?_⟩
   exact(((((HFI.o w emp HB.o.emp_).perm (emp_star _)).junk _).junk _).drew).drew
end Go.Proofs.YtfodmgaliclhfaaGreatDoor
