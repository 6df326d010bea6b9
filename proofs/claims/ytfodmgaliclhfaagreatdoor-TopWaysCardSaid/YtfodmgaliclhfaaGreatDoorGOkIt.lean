/- Lemmas. -/
import Derived.Test.YtfodmgaliclhfaaGreatDoorGAtLater
import Derived.Test.YtfodmgaliclhfaaGreatDoorGOkD
namespace Go.Proofs.YtfodmgaliclhfaaGreatDoor
set_option linter.unusedVariables false
set_option linter.unusedSimpArgs false
set_option maxRecDepth 100000
set_option maxHeartbeats 8000000
open Go.RowKit Go.Proofs.Tryz Iq Jq
theorem Kb:(prog.info? 346).map (fun i=>(i.zero,i.size,i.bytes))=some (some (.agg #[ι 0,ι 0,υ 0,υ 0,υ 0,υ 0,υ 0,υ 0,υ 0,υ 0,ι 0]),11,88):=by kernel_rfl
theorem Ch {ω w:World}{P F:HP}{b:Nat}{t:TypeId}{v0 v1 v2 v3 v4 v5 v6 v7 v8 v9 v10 v11 v12 v13 v14 v15 v16 v17 u:Value}(h:Sat ω w (P*(bk b t #[v0,v1,v2,v3,v4,v5,v6,v7,v8,v9,v10,v11,v12,v13,v14,v15,v16,v17,u]*F)))(v:Value):Sat ω (w.setCell (κ b 18) v) (P*(bk b t #[v0,v1,v2,v3,v4,v5,v6,v7,v8,v9,v10,v11,v12,v13,v14,v15,v16,v17,v]*F)):=(h.swap.put 18 v rfl).swap
theorem Id (ω w:World)(F:HP)(b vb:Nat)(x:PIt)(v:PVw)(h:Sat ω w (itH b vb x v*F))(hr:x.regs.length=8)(ho:v.ok)(hn:x.opens.length≤100)(hl:x.out.length≤100)(op:Int)(p:Nat):
  Calls prog 251 #[.pointer b,op,p] w (Rets ω F (.int .i64 ((x.begin v op p).1:Int)) (itH b vb (x.begin v op p).2.1 (x.begin v op p).2.2)):=by
 obtain⟨D,hD,hx⟩:=AL h;obtain⟨R,hR⟩:∃R,v.open_=R:=⟨_,rfl⟩;have hE:x.begin v op p=if R.1≠0 then(R.1,x,R.2) else(0,{x with opens:=x.opens++[⟨op,p,x.regs,x.out.length⟩]},R.2):=by unfold PIt.begin;rw[hR]
 have HO:Hid (Calls prog 319 #[.pointer vb] w (Rets ω (itX b x D*F) (.int .i64 R.1) (vwH vb R.2))):=h_ (by
  have h9:=RZ ω w (itX b x D*F) vb v hx.swap ho;rw[hR] at h9;exact h9)
 have c1:w.cell? (κ b 1)=some (.pointer vb):=by
  have h9:=hx.assoc.blk.cell 1;rw[AR x D 1 (by omega)] at h9
  rw[h9,←hD];rfl
 have lb:=hx.assoc.blk.lt;obtain⟨re,rv⟩:=R;rw[hE];by_cases hre:re=0
 ·subst hre;rw[if_neg (by simp)]
  obtain⟨code,fin,err,regs,out,at_,next,left,opens⟩:=x;obtain⟨r0,r1,r2,r3,r4,r5,r6,r7,rfl⟩:=Bq hr;obtain⟨pA,pc,mA,mc,oA,oc,vb',sb⟩:=D;simp only at hD hn hl;subst hD;obtain⟨k,hk⟩:∃k,opens.length=k:=⟨_,rfl⟩;obtain⟨N,hN⟩:∃N,out.length=N:=⟨_,rfl⟩;obtain⟨i0,hi0,hz⟩:=Option.map_eq_some_iff.1 Kb;simp only[Prod.mk.injEq] at hz;obtain⟨hz0,hz1,hz2⟩:=hz;have HI:=h_ hi0;have HZ0:=h_ hz0;have HZ1:=h_ hz1;have HZ2:=h_ hz2;obtain⟨G,hG⟩:∃G,G=row 87 5 (.slice pA code.length pc) code.length (code.flatMap insV)*(row 3 1 (.slice mA (matchP code).length mc) (matchP code).length ((matchP code).map (Value.int .i64))*(vwH vb' rv*F)):=⟨_,rfl⟩;have HX:Hid (∀w1,Sat ω w1 (vwH vb' rv*(itX b ⟨code,fin,err,[r0,r1,r2,r3,r4,r5,r6,r7],out,at_,next,left,opens⟩ ⟨pA,pc,mA,mc,oA,oc,vb',sb⟩*F))→Sat ω w1 (row 346 11 (.slice oA k oc) k (opens.flatMap ptV)*(bk b 245 #[.slice pA code.length pc,pV vb',.slice mA (matchP code).length mc,ι 0,err,fin,υ r0,υ r1,υ r2,υ r3,υ r4,υ r5,υ r6,υ r7,pV sb,at_,next,left,.slice oA k oc]*(slH sb out*G)))):=h_ (fun w1 h1=>by
   rw[hG,←hk];exact h1.perm (by unfold itX itC;simp only[List.map_cons,List.map_nil,List.cons_append,List.nil_append];ac_rfl))
  have HLEN:Hid (∀w1 P,Sat ω w1 (P*(slH sb out*G))→Calls prog 320 #[.pointer sb] w1 fun e w'=>e=.returned N∧w'=w1):=h_ (fun w1 P h1=>by
   have h9:=TX ω w1 _ sb out h1.right (by omega)
   rw[hN] at h9;exact h9)
  have HFI:Hid (∀w2 A' c',Sat ω w2 (row 346 11 (.slice A' (k+1) c') (k+1) (opens.flatMap ptV++[.int .i64 op,.int .i64 p,.int .u64 r0,.int .u64 r1,.int .u64 r2,.int .u64 r3,.int .u64 r4,.int .u64 r5,.int .u64 r6,.int .u64 r7,.int .i64 N])*(bk b 245 #[.slice pA code.length pc,pV vb',.slice mA (matchP code).length mc,ι 0,err,fin,υ r0,υ r1,υ r2,υ r3,υ r4,υ r5,υ r6,υ r7,pV sb,at_,next,left,.slice A' (k+1) c']*(slH sb out*G)))→Sat ω w2 (itH b vb' ⟨code,fin,err,[r0,r1,r2,r3,r4,r5,r6,r7],out,at_,next,left,opens++[⟨op,p,[r0,r1,r2,r3,r4,r5,r6,r7],out.length⟩]⟩ rv*F)):=h_ (fun w2 A' c' h2=>by
   refine Ae (D:=⟨pA,pc,mA,mc,A',c',vb',sb⟩) rfl ?_;rw[hG] at h2;exact h2.perm (by
    unfold itX itC;simp only[List.map_cons,List.map_nil,List.cons_append,List.nil_append,List.length_append,List.length_singleton,hk,hN,List.flatMap_append,List.flatMap_cons,List.flatMap_nil,ptV,List.append_nil];ac_rfl))
  have HRD:Hid (∀(w1:World),Reads (w1.alloc (.cells #[op,p,υ r0,υ r1,υ r2,υ r3,υ r4,υ r5,υ r6,υ r7,N] 346)) (w1.heap.size+1) 11 (some ⟨w1.heap.size,0,none⟩) 1 [.int .i64 op,.int .i64 p,.int .u64 r0,.int .u64 r1,.int .u64 r2,.int .u64 r3,.int .u64 r4,.int .u64 r5,.int .u64 r6,.int .u64 r7,.int .i64 N]):=h_ (fun w1=>by
   have h9:=Reads.of_blk (size:=11) (n:=1) (Blk.new w1 346 #[op,p,υ r0,υ r1,υ r2,υ r3,υ r4,υ r5,υ r6,υ r7,N]) rfl;rw[World.size_alloc] at h9;exact h9)
  have HON:Hid (∀u∈[Value.int .i64 op,.int .i64 p,.int .u64 r0,.int .u64 r1,.int .u64 r2,.int .u64 r3,.int .u64 r4,.int .u64 r5,.int .u64 r6,.int .u64 r7,.int .i64 N],u.oneCell'=true):=h_ (by intro u hu;simp at hu;rcases hu with rfl|rfl|rfl|rfl|rfl|rfl|rfl|rfl|rfl|rfl|rfl<;>rfl)
  simp only at HO;have hk100:k≤100:=by omega
  clear h hx hR hE ho hn hl hr hG hi0 hz0 hz1 hz2 hN hk;go_enter func251,ntmps251;go_wp2_with (go_at_call 319;refine(HO.o).mono ?_;rintro e w1 ⟨rfl,hs⟩;have hy:=HX.o _ hs;have HS:=h_ hy;clear hs hy);have kk:=HS.o.right.blk;have m6:=kk.cell 6;have m7:=kk.cell 7;have m8:=kk.cell 8;have m9:=kk.cell 9;have m10:=kk.cell 10;have m11:=kk.cell 11;have m12:=kk.cell 12;have m13:=kk.cell 13;have m14:w1.cell? (κ b 14)=some (.pointer sb):=kk.cell 14;have m18:=kk.cell 18;have mf:=kk.frozen;have ml:=kk.lt;have ml1:b<w1.heap.size+1:=by omega
  have m99:∀o,(w1.drew.alloc o).cell? (κ b 18)=some (.slice oA k oc):=fun o=>(HS.o.drew.junk o).right.blk.cell 18
  clear kk;refine wp_region_any (by kernel_rfl) ?_
  try (change wpAny _ _ _ _ _ _ _ (World.drew _))
  refine tF 0 ?_ rfl ?_ (tF 1 ?_ rfl ?_ (tF 5 ?_ rfl ?_ (tF 6 ?_ rfl ?_ (tF 7 ?_ rfl ?_ (tF 11 ?_ rfl ?_ (tF 2 ?_ rfl ?_ (tF 8 ?_ rfl ?_ (tF 12 ?_ rfl ?_ (tF 3 ?_ rfl ?_ (tF 9 ?_ rfl ?_ (tF 13 ?_ rfl ?_ ?_)))))))))));all_goals (try (
   intro w;go_simp<;>(try with_reducible rfl)))
  refine rF [4,10,14] ?_;refine AllReady.cons rfl (fun K hK=>?_) ?_
  ·go_simp;refine hK _ _ ?_;clear hK K;refine rF [10,14] ?_;refine AllReady.cons rfl (fun K hK=>?_) ?_
   ·go_simp;refine hK _ _ ?_;clear hK K;refine oF 14 rfl fun K hK=>?_
    go_simp;refine hK _ _ ?_;clear hK K;refine oF 15 rfl fun K hK=>?_
    go_simp;go_at_call 320;refine(HLEN.o _ _ HS.o.drew.assoc').mono ?_;rintro e w9 ⟨rfl,rfl⟩;refine hK _ _ ?_;clear hK K;refine tF 16 ?_ rfl ?_ ?_;all_goals (try (
     intro w;go_simp<;>(try with_reducible rfl)))
    refine oF 17 rfl fun K hK=>?_
    go_simp;refine hK _ _ ?_;clear hK K;refine oF 18 rfl fun K hK=>?_
    refine BI 243 346 11 88 underlying243 HI.o HZ0.o HZ1.o HZ2.o (HS.o.drew.junk _) (HRD.o _) HON.o ?_;intro A' c' w2 hs;have kb:=hs.right.blk;have qf:=kb.frozen;have ql:=kb.lt;have q1:=kb.cell 18;have HY:=h_ (Ch hs (.slice A' (k+1) c'));clear hs kb;refine hK _ _ ?_;clear hK K;refine tF 19 ?_ rfl ?_ (tF 20 ?_ rfl ?_ ?_);all_goals (try (
     intro w;go_simp<;>(try with_reducible rfl)))
    refine oF 21 rfl fun K hK=>?_
    go_simp;refine hK _ _ ?_;clear hK K;refine dF ?_;go_wp2;go_ret;exact⟨rfl,HFI.o _ _ _ HY.o⟩
   refine nF rfl fun K hK=>?_
   ·go_simp;refine hK _ _ ?_;clear hK K;refine rF [10,15] ?_;refine AllReady.cons rfl (fun K hK=>?_) ?_
    ·go_simp;refine hK _ _ ?_;clear hK K;refine oF 15 rfl fun K hK=>?_
     go_simp;go_at_call 320;refine(HLEN.o _ _ HS.o.drew.assoc').mono ?_;rintro e w9 ⟨rfl,rfl⟩;refine hK _ _ ?_;clear hK K;refine tF 16 ?_ rfl ?_ ?_;all_goals (try (
      intro w;go_simp<;>(try with_reducible rfl)))
     refine oF 17 rfl fun K hK=>?_
     go_simp;refine hK _ _ ?_;clear hK K;refine oF 18 rfl fun K hK=>?_
     refine BI 243 346 11 88 underlying243 HI.o HZ0.o HZ1.o HZ2.o (HS.o.drew.junk _) (HRD.o _) HON.o ?_;intro A' c' w2 hs;have kb:=hs.right.blk;have qf:=kb.frozen;have ql:=kb.lt;have q1:=kb.cell 18;have HY:=h_ (Ch hs (.slice A' (k+1) c'));clear hs kb;refine hK _ _ ?_;clear hK K;refine tF 19 ?_ rfl ?_ (tF 20 ?_ rfl ?_ ?_);all_goals (try (
      intro w;go_simp<;>(try with_reducible rfl)))
     refine oF 21 rfl fun K hK=>?_
     go_simp;refine hK _ _ ?_;clear hK K;refine dF ?_;go_wp2;go_ret;exact⟨rfl,HFI.o _ _ _ HY.o⟩
    refine nF rfl fun K hK=>?_
    ·go_simp;go_at_call 320;refine(HLEN.o _ _ HS.o.drew.assoc').mono ?_;rintro e w9 ⟨rfl,rfl⟩;refine hK _ _ ?_;clear hK K;refine oF 10 rfl fun K hK=>?_
     go_simp;refine hK _ _ ?_;clear hK K;refine tF 16 ?_ rfl ?_ ?_;all_goals (try (
      intro w;go_simp<;>(try with_reducible rfl)))
     refine oF 17 rfl fun K hK=>?_
     go_simp;refine hK _ _ ?_;clear hK K;refine oF 18 rfl fun K hK=>?_
     refine BI 243 346 11 88 underlying243 HI.o HZ0.o HZ1.o HZ2.o (HS.o.drew.junk _) (HRD.o _) HON.o ?_;intro A' c' w2 hs;have kb:=hs.right.blk;have qf:=kb.frozen;have ql:=kb.lt;have q1:=kb.cell 18;have HY:=h_ (Ch hs (.slice A' (k+1) c'));clear hs kb;refine hK _ _ ?_;clear hK K;refine tF 19 ?_ rfl ?_ (tF 20 ?_ rfl ?_ ?_);all_goals (try (
      intro w;go_simp<;>(try with_reducible rfl)))
     refine oF 21 rfl fun K hK=>?_
     go_simp;refine hK _ _ ?_;clear hK K;refine dF ?_;go_wp2;go_ret;exact⟨rfl,HFI.o _ _ _ HY.o⟩
  refine AllReady.cons rfl (fun K hK=>?_) ?_
  ·go_simp;refine hK _ _ ?_;clear hK K;refine rF [4,14] ?_;refine AllReady.cons rfl (fun K hK=>?_) ?_
   ·go_simp;refine hK _ _ ?_;clear hK K;refine oF 14 rfl fun K hK=>?_
    go_simp;refine hK _ _ ?_;clear hK K;refine oF 15 rfl fun K hK=>?_
    go_simp;go_at_call 320;refine(HLEN.o _ _ HS.o.drew.assoc').mono ?_;rintro e w9 ⟨rfl,rfl⟩;refine hK _ _ ?_;clear hK K;refine tF 16 ?_ rfl ?_ ?_;all_goals (try (
     intro w;go_simp<;>(try with_reducible rfl)))
    refine oF 17 rfl fun K hK=>?_
    go_simp;refine hK _ _ ?_;clear hK K;refine oF 18 rfl fun K hK=>?_
    refine BI 243 346 11 88 underlying243 HI.o HZ0.o HZ1.o HZ2.o (HS.o.drew.junk _) (HRD.o _) HON.o ?_;intro A' c' w2 hs;have kb:=hs.right.blk;have qf:=kb.frozen;have ql:=kb.lt;have q1:=kb.cell 18;have HY:=h_ (Ch hs (.slice A' (k+1) c'));clear hs kb;refine hK _ _ ?_;clear hK K;refine tF 19 ?_ rfl ?_ (tF 20 ?_ rfl ?_ ?_);all_goals (try (
     intro w;go_simp<;>(try with_reducible rfl)))
    refine oF 21 rfl fun K hK=>?_
    go_simp;refine hK _ _ ?_;clear hK K;refine dF ?_;go_wp2;go_ret;exact⟨rfl,HFI.o _ _ _ HY.o⟩
   refine nF rfl fun K hK=>?_
   ·go_simp;refine hK _ _ ?_;clear hK K;refine rF [4,15] ?_;refine AllReady.cons rfl (fun K hK=>?_) ?_
    ·go_simp;refine hK _ _ ?_;clear hK K;refine oF 15 rfl fun K hK=>?_
     go_simp;go_at_call 320;refine(HLEN.o _ _ HS.o.drew.assoc').mono ?_;rintro e w9 ⟨rfl,rfl⟩;refine hK _ _ ?_;clear hK K;refine tF 16 ?_ rfl ?_ ?_;all_goals (try (
      intro w;go_simp<;>(try with_reducible rfl)))
     refine oF 17 rfl fun K hK=>?_
     go_simp;refine hK _ _ ?_;clear hK K;refine oF 18 rfl fun K hK=>?_
     refine BI 243 346 11 88 underlying243 HI.o HZ0.o HZ1.o HZ2.o (HS.o.drew.junk _) (HRD.o _) HON.o ?_;intro A' c' w2 hs;have kb:=hs.right.blk;have qf:=kb.frozen;have ql:=kb.lt;have q1:=kb.cell 18;have HY:=h_ (Ch hs (.slice A' (k+1) c'));clear hs kb;refine hK _ _ ?_;clear hK K;refine tF 19 ?_ rfl ?_ (tF 20 ?_ rfl ?_ ?_);all_goals (try (
      intro w;go_simp<;>(try with_reducible rfl)))
     refine oF 21 rfl fun K hK=>?_
     go_simp;refine hK _ _ ?_;clear hK K;refine dF ?_;go_wp2;go_ret;exact⟨rfl,HFI.o _ _ _ HY.o⟩
    refine nF rfl fun K hK=>?_
    ·go_simp;go_at_call 320;refine(HLEN.o _ _ HS.o.drew.assoc').mono ?_;rintro e w9 ⟨rfl,rfl⟩;refine hK _ _ ?_;clear hK K;refine tF 16 ?_ rfl ?_ ?_;all_goals (try (
      intro w;go_simp<;>(try with_reducible rfl)))
     refine rF [4,17] ?_;refine AllReady.cons rfl (fun K hK=>?_) ?_
     ·go_simp;refine hK _ _ ?_;clear hK K;refine oF 17 rfl fun K hK=>?_
      go_simp;refine hK _ _ ?_;clear hK K;refine oF 18 rfl fun K hK=>?_
      refine BI 243 346 11 88 underlying243 HI.o HZ0.o HZ1.o HZ2.o (HS.o.drew.junk _) (HRD.o _) HON.o ?_;intro A' c' w2 hs;have kb:=hs.right.blk;have qf:=kb.frozen;have ql:=kb.lt;have q1:=kb.cell 18;have HY:=h_ (Ch hs (.slice A' (k+1) c'));clear hs kb;refine hK _ _ ?_;clear hK K;refine tF 19 ?_ rfl ?_ (tF 20 ?_ rfl ?_ ?_);all_goals (try (
       intro w;go_simp<;>(try with_reducible rfl)))
      refine oF 21 rfl fun K hK=>?_
      go_simp;refine hK _ _ ?_;clear hK K;refine dF ?_;go_wp2;go_ret;exact⟨rfl,HFI.o _ _ _ HY.o⟩
     refine nF rfl fun K hK=>?_
     ·go_simp;refine hK _ _ ?_;clear hK K;refine oF 4 rfl fun K hK=>?_
      go_simp;refine hK _ _ ?_;clear hK K;refine oF 18 rfl fun K hK=>?_
      refine BI 243 346 11 88 underlying243 HI.o HZ0.o HZ1.o HZ2.o (HS.o.drew.junk _) (HRD.o _) HON.o ?_;intro A' c' w2 hs;have kb:=hs.right.blk;have qf:=kb.frozen;have ql:=kb.lt;have q1:=kb.cell 18;have HY:=h_ (Ch hs (.slice A' (k+1) c'));clear hs kb;refine hK _ _ ?_;clear hK K;refine tF 19 ?_ rfl ?_ (tF 20 ?_ rfl ?_ ?_);all_goals (try (
       intro w;go_simp<;>(try with_reducible rfl)))
      refine oF 21 rfl fun K hK=>?_
      go_simp;refine hK _ _ ?_;clear hK K;refine dF ?_;go_wp2;go_ret;exact⟨rfl,HFI.o _ _ _ HY.o⟩
  refine nF rfl fun K hK=>?_
  ·go_simp;refine hK _ _ ?_;clear hK K;refine rF [4,10,15] ?_;refine AllReady.cons rfl (fun K hK=>?_) ?_
   ·go_simp;refine hK _ _ ?_;clear hK K;refine rF [10,15] ?_;refine AllReady.cons rfl (fun K hK=>?_) ?_
    ·go_simp;refine hK _ _ ?_;clear hK K;refine oF 15 rfl fun K hK=>?_
     go_simp;go_at_call 320;refine(HLEN.o _ _ HS.o.drew.assoc').mono ?_;rintro e w9 ⟨rfl,rfl⟩;refine hK _ _ ?_;clear hK K;refine tF 16 ?_ rfl ?_ ?_;all_goals (try (
      intro w;go_simp<;>(try with_reducible rfl)))
     refine oF 17 rfl fun K hK=>?_
     go_simp;refine hK _ _ ?_;clear hK K;refine oF 18 rfl fun K hK=>?_
     refine BI 243 346 11 88 underlying243 HI.o HZ0.o HZ1.o HZ2.o (HS.o.drew.junk _) (HRD.o _) HON.o ?_;intro A' c' w2 hs;have kb:=hs.right.blk;have qf:=kb.frozen;have ql:=kb.lt;have q1:=kb.cell 18;have HY:=h_ (Ch hs (.slice A' (k+1) c'));clear hs kb;refine hK _ _ ?_;clear hK K;refine tF 19 ?_ rfl ?_ (tF 20 ?_ rfl ?_ ?_);all_goals (try (
      intro w;go_simp<;>(try with_reducible rfl)))
     refine oF 21 rfl fun K hK=>?_
     go_simp;refine hK _ _ ?_;clear hK K;refine dF ?_;go_wp2;go_ret;exact⟨rfl,HFI.o _ _ _ HY.o⟩
    refine nF rfl fun K hK=>?_
    ·go_simp;go_at_call 320;refine(HLEN.o _ _ HS.o.drew.assoc').mono ?_;rintro e w9 ⟨rfl,rfl⟩;refine hK _ _ ?_;clear hK K;refine oF 10 rfl fun K hK=>?_
     go_simp;refine hK _ _ ?_;clear hK K;refine tF 16 ?_ rfl ?_ ?_;all_goals (try (
      intro w;go_simp<;>(try with_reducible rfl)))
     refine oF 17 rfl fun K hK=>?_
     go_simp;refine hK _ _ ?_;clear hK K;refine oF 18 rfl fun K hK=>?_
     refine BI 243 346 11 88 underlying243 HI.o HZ0.o HZ1.o HZ2.o (HS.o.drew.junk _) (HRD.o _) HON.o ?_;intro A' c' w2 hs;have kb:=hs.right.blk;have qf:=kb.frozen;have ql:=kb.lt;have q1:=kb.cell 18;have HY:=h_ (Ch hs (.slice A' (k+1) c'));clear hs kb;refine hK _ _ ?_;clear hK K;refine tF 19 ?_ rfl ?_ (tF 20 ?_ rfl ?_ ?_);all_goals (try (
      intro w;go_simp<;>(try with_reducible rfl)))
     refine oF 21 rfl fun K hK=>?_
     go_simp;refine hK _ _ ?_;clear hK K;refine dF ?_;go_wp2;go_ret;exact⟨rfl,HFI.o _ _ _ HY.o⟩
   refine AllReady.cons rfl (fun K hK=>?_) ?_
   ·go_simp;refine hK _ _ ?_;clear hK K;refine rF [4,15] ?_;refine AllReady.cons rfl (fun K hK=>?_) ?_
    ·go_simp;refine hK _ _ ?_;clear hK K;refine oF 15 rfl fun K hK=>?_
     go_simp;go_at_call 320;refine(HLEN.o _ _ HS.o.drew.assoc').mono ?_;rintro e w9 ⟨rfl,rfl⟩;refine hK _ _ ?_;clear hK K;refine tF 16 ?_ rfl ?_ ?_;all_goals (try (
      intro w;go_simp<;>(try with_reducible rfl)))
     refine oF 17 rfl fun K hK=>?_
     go_simp;refine hK _ _ ?_;clear hK K;refine oF 18 rfl fun K hK=>?_
     refine BI 243 346 11 88 underlying243 HI.o HZ0.o HZ1.o HZ2.o (HS.o.drew.junk _) (HRD.o _) HON.o ?_;intro A' c' w2 hs;have kb:=hs.right.blk;have qf:=kb.frozen;have ql:=kb.lt;have q1:=kb.cell 18;have HY:=h_ (Ch hs (.slice A' (k+1) c'));clear hs kb;refine hK _ _ ?_;clear hK K;refine tF 19 ?_ rfl ?_ (tF 20 ?_ rfl ?_ ?_);all_goals (try (
      intro w;go_simp<;>(try with_reducible rfl)))
     refine oF 21 rfl fun K hK=>?_
     go_simp;refine hK _ _ ?_;clear hK K;refine dF ?_;go_wp2;go_ret;exact⟨rfl,HFI.o _ _ _ HY.o⟩
    refine nF rfl fun K hK=>?_
    ·go_simp;go_at_call 320;refine(HLEN.o _ _ HS.o.drew.assoc').mono ?_;rintro e w9 ⟨rfl,rfl⟩;refine hK _ _ ?_;clear hK K;refine tF 16 ?_ rfl ?_ ?_;all_goals (try (
      intro w;go_simp<;>(try with_reducible rfl)))
     refine rF [4,17] ?_;refine AllReady.cons rfl (fun K hK=>?_) ?_
     ·go_simp;refine hK _ _ ?_;clear hK K;refine oF 17 rfl fun K hK=>?_
      go_simp;refine hK _ _ ?_;clear hK K;refine oF 18 rfl fun K hK=>?_
      refine BI 243 346 11 88 underlying243 HI.o HZ0.o HZ1.o HZ2.o (HS.o.drew.junk _) (HRD.o _) HON.o ?_;intro A' c' w2 hs;have kb:=hs.right.blk;have qf:=kb.frozen;have ql:=kb.lt;have q1:=kb.cell 18;have HY:=h_ (Ch hs (.slice A' (k+1) c'));clear hs kb;refine hK _ _ ?_;clear hK K;refine tF 19 ?_ rfl ?_ (tF 20 ?_ rfl ?_ ?_);all_goals (try (
       intro w;go_simp<;>(try with_reducible rfl)))
      refine oF 21 rfl fun K hK=>?_
      go_simp;refine hK _ _ ?_;clear hK K;refine dF ?_;go_wp2;go_ret;exact⟨rfl,HFI.o _ _ _ HY.o⟩
     refine nF rfl fun K hK=>?_
     ·go_simp;refine hK _ _ ?_;clear hK K;refine oF 4 rfl fun K hK=>?_
      go_simp;refine hK _ _ ?_;clear hK K;refine oF 18 rfl fun K hK=>?_
      refine BI 243 346 11 88 underlying243 HI.o HZ0.o HZ1.o HZ2.o (HS.o.drew.junk _) (HRD.o _) HON.o ?_;intro A' c' w2 hs;have kb:=hs.right.blk;have qf:=kb.frozen;have ql:=kb.lt;have q1:=kb.cell 18;have HY:=h_ (Ch hs (.slice A' (k+1) c'));clear hs kb;refine hK _ _ ?_;clear hK K;refine tF 19 ?_ rfl ?_ (tF 20 ?_ rfl ?_ ?_);all_goals (try (
       intro w;go_simp<;>(try with_reducible rfl)))
      refine oF 21 rfl fun K hK=>?_
      go_simp;refine hK _ _ ?_;clear hK K;refine dF ?_;go_wp2;go_ret;exact⟨rfl,HFI.o _ _ _ HY.o⟩
   refine nF rfl fun K hK=>?_
   ·go_simp;go_at_call 320;refine(HLEN.o _ _ HS.o.drew.assoc').mono ?_;rintro e w9 ⟨rfl,rfl⟩;refine hK _ _ ?_;clear hK K;refine rF [4,10] ?_;refine AllReady.cons rfl (fun K hK=>?_) ?_
    ·go_simp;refine hK _ _ ?_;clear hK K;refine oF 10 rfl fun K hK=>?_
     go_simp;refine hK _ _ ?_;clear hK K;refine tF 16 ?_ rfl ?_ ?_;all_goals (try (
      intro w;go_simp<;>(try with_reducible rfl)))
     refine oF 17 rfl fun K hK=>?_
     go_simp;refine hK _ _ ?_;clear hK K;refine oF 18 rfl fun K hK=>?_
     refine BI 243 346 11 88 underlying243 HI.o HZ0.o HZ1.o HZ2.o (HS.o.drew.junk _) (HRD.o _) HON.o ?_;intro A' c' w2 hs;have kb:=hs.right.blk;have qf:=kb.frozen;have ql:=kb.lt;have q1:=kb.cell 18;have HY:=h_ (Ch hs (.slice A' (k+1) c'));clear hs kb;refine hK _ _ ?_;clear hK K;refine tF 19 ?_ rfl ?_ (tF 20 ?_ rfl ?_ ?_);all_goals (try (
      intro w;go_simp<;>(try with_reducible rfl)))
     refine oF 21 rfl fun K hK=>?_
     go_simp;refine hK _ _ ?_;clear hK K;refine dF ?_;go_wp2;go_ret;exact⟨rfl,HFI.o _ _ _ HY.o⟩
    refine nF rfl fun K hK=>?_
    ·go_simp;refine hK _ _ ?_;clear hK K;refine tF 16 ?_ rfl ?_ ?_;all_goals (try (
      intro w;go_simp<;>(try with_reducible rfl)))
     refine rF [4,17] ?_;refine AllReady.cons rfl (fun K hK=>?_) ?_
     ·go_simp;refine hK _ _ ?_;clear hK K;refine oF 17 rfl fun K hK=>?_
      go_simp;refine hK _ _ ?_;clear hK K;refine oF 18 rfl fun K hK=>?_
      refine BI 243 346 11 88 underlying243 HI.o HZ0.o HZ1.o HZ2.o (HS.o.drew.junk _) (HRD.o _) HON.o ?_;intro A' c' w2 hs;have kb:=hs.right.blk;have qf:=kb.frozen;have ql:=kb.lt;have q1:=kb.cell 18;have HY:=h_ (Ch hs (.slice A' (k+1) c'));clear hs kb;refine hK _ _ ?_;clear hK K;refine tF 19 ?_ rfl ?_ (tF 20 ?_ rfl ?_ ?_);all_goals (try (
       intro w;go_simp<;>(try with_reducible rfl)))
      refine oF 21 rfl fun K hK=>?_
      go_simp;refine hK _ _ ?_;clear hK K;refine dF ?_;go_wp2;go_ret;exact⟨rfl,HFI.o _ _ _ HY.o⟩
     refine nF rfl fun K hK=>?_
     ·go_simp;refine hK _ _ ?_;clear hK K;refine oF 4 rfl fun K hK=>?_
      go_simp;refine hK _ _ ?_;clear hK K;refine oF 18 rfl fun K hK=>?_
      refine BI 243 346 11 88 underlying243 HI.o HZ0.o HZ1.o HZ2.o (HS.o.drew.junk _) (HRD.o _) HON.o ?_;intro A' c' w2 hs;have kb:=hs.right.blk;have qf:=kb.frozen;have ql:=kb.lt;have q1:=kb.cell 18;have HY:=h_ (Ch hs (.slice A' (k+1) c'));clear hs kb;refine hK _ _ ?_;clear hK K;refine tF 19 ?_ rfl ?_ (tF 20 ?_ rfl ?_ ?_);all_goals (try (
       intro w;go_simp<;>(try with_reducible rfl)))
      refine oF 21 rfl fun K hK=>?_
      go_simp;refine hK _ _ ?_;clear hK K;refine dF ?_;go_wp2;go_ret;exact⟨rfl,HFI.o _ _ _ HY.o⟩
 ·rw[if_pos hre];have d1:((re:Int) != 0)=true:=by simpa using hre
  have d2:((re:Int)==0)=false:=by simpa using hre
  have HF:Hid (∀w1,Sat ω w1 (vwH vb rv*(itX b x D*F))→Sat ω w1 (itH b vb x rv*F)):=h_ (fun w1 h1=>Ae hD h1.swap)
  simp only at HO;clear h hx hD hR hE hre ho hn hl hr;go_enter func251,ntmps251;go_wp2_with (go_at_call 319;refine(HO.o).mono ?_;rintro e w1 ⟨rfl,hs⟩;have HS:=h_ hs;clear hs);go_ret;exact⟨rfl,HF.o _ HS.o⟩
theorem Sat.rowLast {ω w:World}{F:HP}{e:TypeId}{size n c:Nat}{A:Option Addr}{xs ys:List Value}(h:Sat ω w (row e size (.slice A (n+1) c) (n+1) (xs++ys)*F))(hx:xs.length=n*size)(hy:ys.length=size):
  ∃g,A=some ⟨g,0,none⟩∧g<w.heap.size∧∀j,j<size→w.cell? (κ g (n*size+j))=ys[j]?:=by
 rcases h.cases with⟨h1,h2,_⟩|⟨g,cap,cur,h2,h3,h4,h5,h6,h7,h8⟩
 ·omega
 ·injection h2 with h2 _ _
  refine⟨g,h2,h8.blk.lt,fun j hj=>?_⟩
  have e1:(xs++ys)[n*size+j]?=ys[j]?:=by
   rw[List.getElem?_append_right (by omega),hx]
   congr 1
   omega
  rw[h8.blk.cell,←e1,←h6,List.getElem?_take,if_pos ?_]
  ·simp
  ·rw[Nat.succ_mul];omega
theorem LZ (l:List PPt)(h:∀p∈l,p.regs.length=8):(l.flatMap ptV).length=l.length*11:=by
 induction l with
 |nil=>rfl
 |cons p l ih =>
  have h1:=h p List.mem_cons_self;have h2:=ih (fun q hq=>h q (List.mem_cons_of_mem _ hq))
  simp only[List.flatMap_cons,List.length_append,h2,ptV,List.length_map,h1,List.length_cons,List.length_nil];omega
theorem Eo (ω w:World)(F:HP)(b vb:Nat)(x:PIt)(v:PVw)(h:Sat ω w (itH b vb x v*F))(hr:x.regs.length=8)(l:List PPt)(pt:PPt)(hp:x.opens=l++[pt])(hr2:pt.regs.length=8)(hall:∀p∈l,p.regs.length=8)(hn:l.length≤100):
  Calls prog 252 #[.pointer b] w (Rets ω F (.agg (ptV pt).toArray) (itH b vb {x with opens:=l} v)):=by
 obtain⟨D,hD,hx⟩:=AL h;obtain⟨pA,pc,mA,mc,oA,oc,vb',sb⟩:=D;simp only at hD;subst hD;obtain⟨code,fin,err,regs,out,at_,next,left,opens⟩:=x;simp only at hr hp;subst hp;obtain⟨p0,p1,preg,p3⟩:=pt;simp only at hr2;obtain⟨r0,r1,r2,r3,r4,r5,r6,r7,rfl⟩:=Bq hr2;obtain⟨k,hk⟩:∃k,l.length=k:=⟨_,rfl⟩;have hlen:(l++[(⟨p0,p1,[r0,r1,r2,r3,r4,r5,r6,r7],p3⟩:PPt)]).length=k+1:=by simp[hk]
 have c18:w.cell? (κ b 18)=some (.slice oA (k+1) oc):=by
  have h9:=hx.assoc.blk.cell 18;rw[show(18:Nat)=14+4 from rfl,AN _ _ 4 hr (by omega)] at h9
  simp only[hlen] at h9;exact h9
 have lb:=hx.assoc.blk.lt;have fz:=hx.assoc.blk.frozen;have hROW:Sat ω w (row 346 11 (.slice oA (k+1) oc) (k+1) (l.flatMap ptV++ptV ⟨p0,p1,[r0,r1,r2,r3,r4,r5,r6,r7],p3⟩)*(bk b 245 (itC ⟨code,fin,err,regs,out,at_,next,left,l++[⟨p0,p1,[r0,r1,r2,r3,r4,r5,r6,r7],p3⟩]⟩ ⟨pA,pc,mA,mc,oA,oc,vb',sb⟩)*(row 87 5 (.slice pA code.length pc) code.length (code.flatMap insV)*(row 3 1 (.slice mA (matchP code).length mc) (matchP code).length ((matchP code).map (Value.int .i64))*(slH sb out*(vwH vb' v*F)))))):=by
  have e:(l++[(⟨p0,p1,[r0,r1,r2,r3,r4,r5,r6,r7],p3⟩:PPt)]).flatMap ptV=l.flatMap ptV++ptV ⟨p0,p1,[r0,r1,r2,r3,r4,r5,r6,r7],p3⟩:=by simp
  unfold itX at hx;simp only[hlen,e] at hx;exact hx.perm (by ac_rfl)
 obtain⟨g,rfl,lg,hc⟩:=hROW.rowLast (by rw[LZ l hall,hk]) rfl
 have q0:w.cell? (κ g (k*11))=some (.int .i64 p0):=hc 0 (by omega)
 have q1:w.cell? (κ g (k*11+1))=some (.int .i64 p1):=hc 1 (by omega)
 have q2:w.cell? (κ g (k*11+2))=some (.int .u64 r0):=hc 2 (by omega)
 have q3:w.cell? (κ g (k*11+3))=some (.int .u64 r1):=hc 3 (by omega)
 have q4:w.cell? (κ g (k*11+4))=some (.int .u64 r2):=hc 4 (by omega)
 have q5:w.cell? (κ g (k*11+5))=some (.int .u64 r3):=hc 5 (by omega)
 have q6:w.cell? (κ g (k*11+6))=some (.int .u64 r4):=hc 6 (by omega)
 have q7:w.cell? (κ g (k*11+7))=some (.int .u64 r5):=hc 7 (by omega)
 have q8:w.cell? (κ g (k*11+8))=some (.int .u64 r6):=hc 8 (by omega)
 have q9:w.cell? (κ g (k*11+9))=some (.int .u64 r7):=hc 9 (by omega)
 have q10:w.cell? (κ g (k*11+10))=some (.int .i64 p3):=hc 10 (by omega)
 have hkc:k≤oc:=by
  rcases hROW.cases with⟨h1,h2,_⟩|⟨_,cap,_,h1,h2,_⟩
  ·omega
  ·injection h1 with _ _ h1;omega
 have HFI:Hid (∀w2 P,Sat ω w2 (P*(row 346 11 (.slice (some ⟨g,0,none⟩) (k+1) oc) (k+1) (l.flatMap ptV++ptV ⟨p0,p1,[r0,r1,r2,r3,r4,r5,r6,r7],p3⟩)*(bk b 245 (itC ⟨code,fin,err,regs,out,at_,next,left,l++[⟨p0,p1,[r0,r1,r2,r3,r4,r5,r6,r7],p3⟩]⟩ ⟨pA,pc,mA,mc,some ⟨g,0,none⟩,oc,vb',sb⟩)*(row 87 5 (.slice pA code.length pc) code.length (code.flatMap insV)*(row 3 1 (.slice mA (matchP code).length mc) (matchP code).length ((matchP code).map (Value.int .i64))*(slH sb out*(vwH vb' v*F)))))))→Sat ω (w2.setCell (κ b 18) (.slice (some ⟨g,0,none⟩) k oc)) (P*(itH b vb' ⟨code,fin,err,regs,out,at_,next,left,l⟩ v*F))):=h_ (fun w2 P h1=>by
  have h2:=h1.swap.rowCut (m:=k) (by omega)
  rw[List.take_left' (by rw[LZ l hall,hk])] at h2
  have h3:Sat ω w2 (bk b 245 (itC ⟨code,fin,err,regs,out,at_,next,left,l++[⟨p0,p1,[r0,r1,r2,r3,r4,r5,r6,r7],p3⟩]⟩ ⟨pA,pc,mA,mc,some ⟨g,0,none⟩,oc,vb',sb⟩)*(row 346 11 (.slice (some ⟨g,0,none⟩) k oc) k (l.flatMap ptV)*(P*(row 87 5 (.slice pA code.length pc) code.length (code.flatMap insV)*(row 3 1 (.slice mA (matchP code).length mc) (matchP code).length ((matchP code).map (Value.int .i64))*(slH sb out*(vwH vb' v*F))))))):=h2.perm (by ac_rfl)
  have h4:=h3.put 18 (.slice (some ⟨g,0,none⟩) k oc) (cs':=itC ⟨code,fin,err,regs,out,at_,next,left,l⟩ ⟨pA,pc,mA,mc,some ⟨g,0,none⟩,oc,vb',sb⟩) (by
   obtain⟨s0,s1,s2,s3,s4,s5,s6,s7,rfl⟩:=Bq hr;simp[itC,hk])
  have h5:Sat ω _ (itX b ⟨code,fin,err,regs,out,at_,next,left,l⟩ ⟨pA,pc,mA,mc,some ⟨g,0,none⟩,oc,vb',sb⟩*(vwH vb' v*(P*F))):=h4.perm (by unfold itX;simp only[hk];ac_rfl)
  exact(Ae rfl h5).swap)
 have HB:=h_ hROW;have hw:IntKind.i64.wrap (k:Int)=(k:Int):=by rw[IntKind.wrap_i64];omega
 have hm0:∀o o2,((w.alloc o).alloc o2).cell? (κ b 18)=some (.slice (some ⟨g,0,none⟩) (k+1) oc):=fun o o2=>by
  have h9:=((HB.o.junk o).junk o2).right.blk.cell 18;rw[show(18:Nat)=14+4 from rfl,AN _ _ 4 hr (by omega)] at h9
  simp only[hlen] at h9;exact h9
 have hlt:(k:Int)<(k:Int)+1:=by omega
 have lb1:b<w.heap.size+1:=by omega
 have lb2:b<w.heap.size+1+1:=by omega
 have lg2:g<w.heap.size+1+1:=by omega
 have lg1:g<w.heap.size+1:=by omega
 clear h hx hc hROW hlen hall hr hr2 hk;go_enter func252,ntmps252;go_wp2;refine wp_region_any (by kernel_rfl) ?_
 try (change wpAny _ _ _ _ _ _ _ (World.drew _))
 refine tF 0 ?_ rfl ?_ (tF 4 ?_ rfl ?_ (tF 1 ?_ rfl ?_ (tF 5 ?_ rfl ?_ (tF 2 ?_ rfl ?_ (tF 6 ?_ rfl ?_ ?_)))));all_goals (try (
  intro w;go_simp<;>(try with_reducible rfl)))
 refine rF [3,7,12] ?_;refine AllReady.cons rfl (fun K hK=>?_) ?_
 ·go_simp;refine hK _ _ ?_;clear hK K;refine rF [7,12] ?_;refine AllReady.cons rfl (fun K hK=>?_) ?_
  ·go_simp;refine hK _ _ ?_;clear hK K;refine tF 8 ?_ rfl ?_ (tF 9 ?_ rfl ?_ ?_);all_goals (try (
    intro w;go_simp<;>(try with_reducible rfl)))
   refine rF [10,12] ?_;refine AllReady.cons rfl (fun K hK=>?_) ?_
   ·go_simp;refine hK _ _ ?_;clear hK K;refine rF [11,12] ?_;refine AllReady.cons rfl (fun K hK=>?_) ?_
    ·go_simp;refine hK _ _ ?_;clear hK K;refine oF 12 rfl fun K hK=>?_
     go_simp;refine hK _ _ ?_;clear hK K;refine oF 13 rfl fun K hK=>?_
     go_simp;refine hK _ _ ?_;clear hK K;refine dF ?_;go_wp2;refine rT 14 ?_;simp only[sD,sE,sF,sG];repeat still_step
     refine wpStill_nil ?_;go_wp2;refine bodyPost_ret (v:=.agg #[p0,p1,υ r0,υ r1,υ r2,υ r3,υ r4,υ r5,υ r6,υ r7,p3]) (by simp[results,results252,go_sem]) rfl ⟨rfl,?_⟩
     exact(((((HFI.o w emp HB.o.emp_).perm (AD _)).junk _).junk _).drew).drew
    refine nF rfl fun K hK=>?_
    ·go_simp;refine hK _ _ ?_;clear hK K;refine oF 11 rfl fun K hK=>?_
     go_simp;refine hK _ _ ?_;clear hK K;refine oF 13 rfl fun K hK=>?_
     go_simp;refine hK _ _ ?_;clear hK K;refine dF ?_;go_wp2;refine rT 14 ?_;simp only[sD,sE,sF,sG];repeat still_step
     refine wpStill_nil ?_;go_wp2;refine bodyPost_ret (v:=.agg #[p0,p1,υ r0,υ r1,υ r2,υ r3,υ r4,υ r5,υ r6,υ r7,p3]) (by simp[results,results252,go_sem]) rfl ⟨rfl,?_⟩
     exact(((((HFI.o w emp HB.o.emp_).perm (AD _)).junk _).junk _).drew).drew
   refine nF rfl fun K hK=>?_
   ·go_simp;refine hK _ _ ?_;clear hK K;refine oF 10 rfl fun K hK=>?_
    go_simp;refine hK _ _ ?_;clear hK K;refine oF 11 rfl fun K hK=>?_
    go_simp;refine hK _ _ ?_;clear hK K;refine oF 13 rfl fun K hK=>?_
    go_simp;refine hK _ _ ?_;clear hK K;refine dF ?_;go_wp2;refine rT 14 ?_;simp only[sD,sE,sF,sG];repeat still_step
    refine wpStill_nil ?_;go_wp2;refine bodyPost_ret (v:=.agg #[p0,p1,υ r0,υ r1,υ r2,υ r3,υ r4,υ r5,υ r6,υ r7,p3]) (by simp[results,results252,go_sem]) rfl ⟨rfl,?_⟩
    exact(((((HFI.o w emp HB.o.emp_).perm (AD _)).junk _).junk _).drew).drew
  refine nF rfl fun K hK=>?_
  ·go_simp;refine hK _ _ ?_;clear hK K;refine oF 7 rfl fun K hK=>?_
   go_simp;refine hK _ _ ?_;clear hK K;refine tF 8 ?_ rfl ?_ (tF 9 ?_ rfl ?_ ?_);all_goals (try (
    intro w;go_simp<;>(try with_reducible rfl)))
   refine oF 10 rfl fun K hK=>?_
   go_simp;refine hK _ _ ?_;clear hK K;refine oF 11 rfl fun K hK=>?_
   go_simp;refine hK _ _ ?_;clear hK K;refine oF 13 rfl fun K hK=>?_
   go_simp;refine hK _ _ ?_;clear hK K;refine dF ?_;go_wp2;refine rT 14 ?_;simp only[sD,sE,sF,sG];repeat still_step
   refine wpStill_nil ?_;go_wp2;refine bodyPost_ret (v:=.agg #[p0,p1,υ r0,υ r1,υ r2,υ r3,υ r4,υ r5,υ r6,υ r7,p3]) (by simp[results,results252,go_sem]) rfl ⟨rfl,?_⟩
   exact(((((HFI.o w emp HB.o.emp_).perm (AD _)).junk _).junk _).drew).drew
 refine AllReady.cons rfl (fun K hK=>?_) ?_
 ·go_simp;refine hK _ _ ?_;clear hK K;refine tF 8 ?_ rfl ?_ (tF 9 ?_ rfl ?_ ?_);all_goals (try (
   intro w;go_simp<;>(try with_reducible rfl)))
  refine rF [3,12] ?_;refine AllReady.cons rfl (fun K hK=>?_) ?_
  ·go_simp;refine hK _ _ ?_;clear hK K;refine rF [10,12] ?_;refine AllReady.cons rfl (fun K hK=>?_) ?_
   ·go_simp;refine hK _ _ ?_;clear hK K;refine rF [11,12] ?_;refine AllReady.cons rfl (fun K hK=>?_) ?_
    ·go_simp;refine hK _ _ ?_;clear hK K;refine oF 12 rfl fun K hK=>?_
     go_simp;refine hK _ _ ?_;clear hK K;refine oF 13 rfl fun K hK=>?_
     go_simp;refine hK _ _ ?_;clear hK K;refine dF ?_;go_wp2;refine rT 14 ?_;simp only[sD,sE,sF,sG];repeat still_step
     refine wpStill_nil ?_;go_wp2;refine bodyPost_ret (v:=.agg #[p0,p1,υ r0,υ r1,υ r2,υ r3,υ r4,υ r5,υ r6,υ r7,p3]) (by simp[results,results252,go_sem]) rfl ⟨rfl,?_⟩
     exact(((((HFI.o w emp HB.o.emp_).perm (AD _)).junk _).junk _).drew).drew
    refine nF rfl fun K hK=>?_
    ·go_simp;refine hK _ _ ?_;clear hK K;refine oF 11 rfl fun K hK=>?_
     go_simp;refine hK _ _ ?_;clear hK K;refine oF 13 rfl fun K hK=>?_
     go_simp;refine hK _ _ ?_;clear hK K;refine dF ?_;go_wp2;refine rT 14 ?_;simp only[sD,sE,sF,sG];repeat still_step
     refine wpStill_nil ?_;go_wp2;refine bodyPost_ret (v:=.agg #[p0,p1,υ r0,υ r1,υ r2,υ r3,υ r4,υ r5,υ r6,υ r7,p3]) (by simp[results,results252,go_sem]) rfl ⟨rfl,?_⟩
     exact(((((HFI.o w emp HB.o.emp_).perm (AD _)).junk _).junk _).drew).drew
   refine nF rfl fun K hK=>?_
   ·go_simp;refine hK _ _ ?_;clear hK K;refine oF 10 rfl fun K hK=>?_
    go_simp;refine hK _ _ ?_;clear hK K;refine oF 11 rfl fun K hK=>?_
    go_simp;refine hK _ _ ?_;clear hK K;refine oF 13 rfl fun K hK=>?_
    go_simp;refine hK _ _ ?_;clear hK K;refine dF ?_;go_wp2;refine rT 14 ?_;simp only[sD,sE,sF,sG];repeat still_step
    refine wpStill_nil ?_;go_wp2;refine bodyPost_ret (v:=.agg #[p0,p1,υ r0,υ r1,υ r2,υ r3,υ r4,υ r5,υ r6,υ r7,p3]) (by simp[results,results252,go_sem]) rfl ⟨rfl,?_⟩
    exact(((((HFI.o w emp HB.o.emp_).perm (AD _)).junk _).junk _).drew).drew
  refine nF rfl fun K hK=>?_
  ·go_simp;refine hK _ _ ?_;clear hK K;refine oF 3 rfl fun K hK=>?_
   go_simp;refine hK _ _ ?_;clear hK K;refine oF 10 rfl fun K hK=>?_
   go_simp;refine hK _ _ ?_;clear hK K;refine oF 11 rfl fun K hK=>?_
   go_simp;refine hK _ _ ?_;clear hK K;refine oF 13 rfl fun K hK=>?_
   go_simp;refine hK _ _ ?_;clear hK K;refine dF ?_;go_wp2;refine rT 14 ?_;simp only[sD,sE,sF,sG];repeat still_step
   refine wpStill_nil ?_;go_wp2;refine bodyPost_ret (v:=.agg #[p0,p1,υ r0,υ r1,υ r2,υ r3,υ r4,υ r5,υ r6,υ r7,p3]) (by simp[results,results252,go_sem]) rfl ⟨rfl,?_⟩
   exact(((((HFI.o w emp HB.o.emp_).perm (AD _)).junk _).junk _).drew).drew
 refine nF rfl fun K hK=>?_
 ·go_simp;refine hK _ _ ?_;clear hK K;refine rF [3,7] ?_;refine AllReady.cons rfl (fun K hK=>?_) ?_
  ·go_simp;refine hK _ _ ?_;clear hK K;refine oF 7 rfl fun K hK=>?_
   go_simp;refine hK _ _ ?_;clear hK K;refine tF 8 ?_ rfl ?_ (tF 9 ?_ rfl ?_ ?_);all_goals (try (
    intro w;go_simp<;>(try with_reducible rfl)))
   refine oF 10 rfl fun K hK=>?_
   go_simp;refine hK _ _ ?_;clear hK K;refine oF 11 rfl fun K hK=>?_
   go_simp;refine hK _ _ ?_;clear hK K;refine oF 13 rfl fun K hK=>?_
   go_simp;refine hK _ _ ?_;clear hK K;refine dF ?_;go_wp2;refine rT 14 ?_;simp only[sD,sE,sF,sG];repeat still_step
   refine wpStill_nil ?_;go_wp2;refine bodyPost_ret (v:=.agg #[p0,p1,υ r0,υ r1,υ r2,υ r3,υ r4,υ r5,υ r6,υ r7,p3]) (by simp[results,results252,go_sem]) rfl ⟨rfl,?_⟩
   exact(((((HFI.o w emp HB.o.emp_).perm (AD _)).junk _).junk _).drew).drew
  refine nF rfl fun K hK=>?_
  ·go_simp;refine hK _ _ ?_;clear hK K;refine tF 8 ?_ rfl ?_ (tF 9 ?_ rfl ?_ ?_);all_goals (try (
    intro w;go_simp<;>(try with_reducible rfl)))
   refine oF 3 rfl fun K hK=>?_
   go_simp;refine hK _ _ ?_;clear hK K;refine oF 10 rfl fun K hK=>?_
   go_simp;refine hK _ _ ?_;clear hK K;refine oF 11 rfl fun K hK=>?_
   go_simp;refine hK _ _ ?_;clear hK K;refine oF 13 rfl fun K hK=>?_
   go_simp;refine hK _ _ ?_;clear hK K;refine dF ?_;go_wp2;refine rT 14 ?_;simp only[sD,sE,sF,sG];repeat still_step
   refine wpStill_nil ?_;go_wp2;refine bodyPost_ret (v:=.agg #[p0,p1,υ r0,υ r1,υ r2,υ r3,υ r4,υ r5,υ r6,υ r7,p3]) (by simp[results,results252,go_sem]) rfl ⟨rfl,?_⟩
   exact(((((HFI.o w emp HB.o.emp_).perm (AD _)).junk _).junk _).drew).drew
section
variable (ω w : World) (F : HP)
theorem Hm (b:Nat)(v:PVw)(h:Sat ω w (vwH b v*F))(ho:v.ok)(p:Nat):
  Calls prog 185 #[.pointer b,p] w (ReadPost ω F b (v.read p)):=by
 by_cases hp:p≤1000000
 ·exact RY ω w F b v h ho p hp
 ·have HI:=EN h p;have H:=h_ h;have hi:v.is p=false:=by
   unfold PVw.is
   have:=ho.facts
   simp;omega
  rw[show v.read p=(0,2,v) by unfold PVw.read;rw[if_pos hi]]
  rw[hi] at HI;go_enter func185,ntmps185;go_wp2_with (go_at_call 218;refine(HI.o _ (Only.refl _ _)).mono ?_;rintro e w1 ⟨rfl,rfl⟩);go_ret2;exact⟨rfl,H.o⟩
theorem GM (b:Nat)(v:PVw)(h:Sat ω w (vwH b v*F))(ho:v.ok)(p x:Nat):
  Calls prog 248 #[.pointer b,p,υ x] w (Rets ω F (.int .i64 ((v.write p x).1:Int)) (vwH b (v.write p x).2)):=by
 by_cases hp:p≤1000000
 ·exact OT ω w F b v h ho p x hp
 ·have HI:=EN h p;have H:=h_ h;have hi:v.is p=false:=by
   unfold PVw.is
   have:=ho.facts
   simp;omega
  rw[show v.write p x=(2,v) by unfold PVw.write;rw[if_pos hi]]
  rw[hi] at HI;go_enter func248,ntmps248;go_wp2_with (go_at_call 218;refine(HI.o _ (Only.refl _ _)).mono ?_;rintro e w1 ⟨rfl,rfl⟩);go_ret;exact⟨rfl,H.o⟩
theorem Ll (x:PIt)(D:ItD)(k:Nat)(h:x.regs.length=8)(hk:k<8)(r:Nat):(itC x D).setIfInBounds (6+k) (.int .u64 r)=itC {x with regs:=x.regs.set k r} D:=by
 obtain⟨code,fin,err,regs,out,at_,next,left,opens⟩:=x;simp only at h;obtain⟨r0,r1,r2,r3,r4,r5,r6,r7,rfl⟩:=Bq h;rcases(by omega:k=0∨k=1∨k=2∨k=3∨k=4∨k=5∨k=6∨k=7) with rfl|rfl|rfl|rfl|rfl|rfl|rfl|rfl<;>rfl
theorem SN {ω w:World}{F:HP}{b vb:Nat}{x:PIt}{v:PVw}{D:ItD}(hD:D.vb=vb)(h:Sat ω w (vwH vb v*(itX b x D*F)))(hr:x.regs.length=8)(k:Nat)(hk:k<8)(r:Nat):Sat ω (w.setCell (κ b (6+k)) (.int .u64 r)) (itH b vb {x with regs:=x.regs.set k r} v*F):=by
 have h1:Sat ω w (itX b x D*(vwH vb v*F)):=h.swap;unfold itX at h1;have h2:=h1.assoc.put (6+k) (.int .u64 r) (Ll x D k hr hk r);exact Ae (D:=D) hD (h2.assoc')
def loadP (x:PIt)(v:PVw)(ka B:Nat)(c:Int):Nat×PIt×PVw :=
 if(placeP B c).2≠0 then((placeP B c).2,x,v) else((v.read (placeP B c).1).2.1,if(v.read (placeP B c).1).2.1=0 then {x with regs:=x.regs.set ka (v.read (placeP B c).1).1} else x,(v.read (placeP B c).1).2.2)
theorem SP (b vb:Nat)(x:PIt)(v:PVw)(h:Sat ω w (itH b vb x v*F))(hr:x.regs.length=8)(ho:v.ok)(a' b' c' n':Int)(hc : -1000≤c'∧c'≤1000)(ka:Nat)(hk:ka<8)(B:Nat):
  Calls prog 214 #[.pointer b,.agg #[ι 8,a',b',c',υ n'],.pointer (some ⟨b,6+ka,none⟩),υ B] w (Rets ω F (.int .i64 ((loadP x v ka B c').1:Int)) (itH b vb (loadP x v ka B c').2.1 (loadP x v ka B c').2.2)):=by
 obtain⟨D,hD,hx⟩:=AL h;have HP:=h_ (fun w1=>Fp w1 B c' (by omega) (by omega))
 have lb:=hx.assoc.blk.lt;have c1:∀o,(w.alloc o).cell? (κ b 1)=some (.pointer vb):=fun o=>by
  have h9:=(hx.junk o).assoc.blk.cell 1;rw[AR x D 1 (by omega)] at h9
  rw[h9,←hD];rfl
 have lb1:b<w.heap.size+1:=by omega
 have HX:Hid (∀o,Sat ω (w.alloc o) (itH b vb x v*F)):=h_ (fun o=>h.junk o)
 unfold loadP;obtain⟨⟨p,e⟩,hpe⟩:∃r,placeP B c'=r:=⟨_,rfl⟩;rw[hpe] at HP ⊢;simp only at HP ⊢;have he:e=0∨e=2:=by
  unfold placeP at hpe;split at hpe
  ·injection hpe with _ h2;omega
  ·injection hpe with _ h2;omega
 rcases he with rfl|rfl
 ·rw[if_neg (by simp)]
  obtain⟨R,hR⟩:∃R,v.read p=R:=⟨_,rfl⟩;have HR:Hid (∀o,Calls prog 185 #[.pointer vb,p] (w.alloc o) (ReadPost ω (itX b x D*F) vb R)):=h_ (fun o=>hR▸Hm ω _ _ vb v (hx.junk o).swap ho p)
  rw[hR];have HS:Hid (∀w1 (r:Nat),Sat ω w1 (vwH vb R.2.2*(itX b x D*F))→Sat ω (w1.setCell (κ b (6+ka)) (.int .u64 r)) (itH b vb {x with regs:=x.regs.set ka r} R.2.2*F)):=h_ (fun w1 r h1=>SN hD h1 hr ka hk r)
  have HT:Hid (∀w1,Sat ω w1 (vwH vb R.2.2*(itX b x D*F))→Sat ω w1 (itH b vb x R.2.2*F)):=h_ (fun w1 h1=>Ae hD h1.swap)
  have HC:Hid (∀w1,Sat ω w1 (vwH vb R.2.2*(itX b x D*F))→w1.cell? (κ b (6+ka))=some (.int .u64 ((x.regs.getD ka 0:Nat):Int))∧b<w1.heap.size∧w1.frozen? (κ b (6+ka))=false):=h_ (fun w1 h1=>by
   have h9:=h1.swap.assoc.blk;exact⟨by rw[h9.cell,CI x D ka hr hk],h9.lt,h9.frozen _⟩)
  obtain⟨ry,re,rv⟩:=R;simp only at HR HS HT HC ⊢;by_cases h0:re=0
  ·subst h0;rw[if_pos rfl];go_enter func214,ntmps214;go_wp2_with (first
    |(go_at_call 247;refine(HP.o _).mono ?_;rintro e w1 ⟨rfl,rfl⟩)
    |(go_at_call 185;refine(HR.o _).mono ?_;rintro e w1 ⟨rfl,hs⟩;obtain⟨q1,q2,q3⟩:=HC.o _ hs;have HY:=h_ hs))
   go_ret;exact⟨rfl,HS.o _ _ HY.o⟩
  ·rw[if_neg h0];have d:((re:Int)==0)=false:=by simpa using h0
   go_enter func214,ntmps214;go_wp2_with (first
    |(go_at_call 247;refine(HP.o _).mono ?_;rintro e w1 ⟨rfl,rfl⟩)
    |(go_at_call 185;refine(HR.o _).mono ?_;rintro e w1 ⟨rfl,hs⟩;have HY:=h_ hs))
   go_ret;exact⟨rfl,HT.o _ HY.o⟩
 ·rw[if_pos (by simp)]
  go_enter func214,ntmps214;go_wp2_with (go_at_call 247;refine(HP.o _).mono ?_;rintro e w1 ⟨rfl,rfl⟩);go_ret;exact⟨rfl,HX.o _⟩
def storeP (x:PIt)(v:PVw)(A B:Nat)(c:Int):Nat×PIt×PVw :=
 if(placeP A c).2≠0 then((placeP A c).2,x,v) else((v.write (placeP A c).1 B).1,x,(v.write (placeP A c).1 B).2)
theorem Pb (b vb:Nat)(x:PIt)(v:PVw)(h:Sat ω w (itH b vb x v*F))(hr:x.regs.length=8)(ho:v.ok)(a' b' c' n':Int)(hc : -1000≤c'∧c'≤1000)(ka:Nat)(hk:ka<8)(B:Nat):
  Calls prog 214 #[.pointer b,.agg #[ι 9,a',b',c',υ n'],.pointer (some ⟨b,6+ka,none⟩),υ B] w (Rets ω F (.int .i64 ((storeP x v (x.regs.getD ka 0) B c').1:Int)) (itH b vb (storeP x v (x.regs.getD ka 0) B c').2.1 (storeP x v (x.regs.getD ka 0) B c').2.2)):=by
 obtain⟨D,hD,hx⟩:=AL h;obtain⟨A,hA⟩:∃A,x.regs.getD ka 0=A:=⟨_,rfl⟩;rw[hA];have HP:=h_ (fun w1=>Fp w1 A c' (by omega) (by omega))
 have lb:=hx.assoc.blk.lt;have c1:∀o q,((w.alloc o).drewN q).cell? (κ b 1)=some (.pointer vb):=fun o q=>by
  have h9:=((hx.junk o).drewN q).assoc.blk.cell 1;rw[AR x D 1 (by omega)] at h9
  rw[h9,←hD];rfl
 have c2:∀o,(w.alloc o).cell? (κ b (6+ka))=some (.int .u64 A):=fun o=>by
  have h9:=(hx.junk o).assoc.blk.cell (6+ka);rw[CI x D ka hr hk,hA] at h9;exact h9
 have lb1:b<w.heap.size+1:=by omega
 have HX:Hid (∀o q,Sat ω ((w.alloc o).drewN q) (itH b vb x v*F)):=h_ (fun o q=>(h.junk o).drewN q)
 unfold storeP;obtain⟨⟨p,e⟩,hpe⟩:∃r,placeP A c'=r:=⟨_,rfl⟩;rw[hpe] at HP ⊢;simp only at HP ⊢;have he:e=0∨e=2:=by
  unfold placeP at hpe;split at hpe
  ·injection hpe with _ h2;omega
  ·injection hpe with _ h2;omega
 rcases he with rfl|rfl
 ·rw[if_neg (by simp)]
  obtain⟨R,hR⟩:∃R,v.write p B=R:=⟨_,rfl⟩;have HR:Hid (∀o q,Calls prog 248 #[.pointer vb,p,υ B] ((w.alloc o).drewN q) (Rets ω (itX b x D*F) (.int .i64 R.1) (vwH vb R.2))):=h_ (fun o q=>hR▸GM ω _ _ vb v ((hx.junk o).drewN q).swap ho p B)
  rw[hR];have HT:Hid (∀w1,Sat ω w1 (vwH vb R.2*(itX b x D*F))→Sat ω w1 (itH b vb x R.2*F)):=h_ (fun w1 h1=>Ae hD h1.swap)
  obtain⟨re,rv⟩:=R;simp only at HR HT ⊢;go_enter func214,ntmps214;go_wp2;go_quiet ((go_at_call 247;refine(HP.o _).mono ?_;rintro e w1 ⟨rfl,rfl⟩;exact⟨rfl,_,rfl⟩));go_wp2_with (go_at_call 248;refine(HR.o _ _).mono ?_;rintro e w1 ⟨rfl,hs⟩;have HY:=h_ hs);go_ret;exact⟨rfl,HT.o _ HY.o⟩
 ·rw[if_pos (by simp)]
  go_enter func214,ntmps214;go_wp2;go_quiet ((go_at_call 247;refine(HP.o _).mono ?_;rintro e w1 ⟨rfl,rfl⟩;exact⟨rfl,_,rfl⟩));go_wp2;go_ret;exact⟨rfl,HX.o _ _⟩
end
section
variable (ω w : World) (F : HP)
theorem Ic {ω w:World}{F:HP}{b vb:Nat}{x:PIt}{v:PVw}(h:Sat ω w (itH b vb x v*F)){k:Nat}{m:Int}(hm:(matchP x.code)[k]?=some m):∃g c,w.cell? (κ b 2)=some (.slice (some ⟨g,0,none⟩) (matchP x.code).length c)∧g<w.heap.size∧w.cell? (κ g k)=some (.int .i64 m):=by
 obtain⟨D,hD,hx⟩:=AL h;unfold itX at hx;have h1:=hx.assoc;have h2:=h1.right.assoc.right.assoc;have e9:(matchP x.code).map (Value.int .i64)=(matchP x.code).flatMap fun z=>[Value.int .i64 z]:=List.map_eq_flatMap
 rw[e9] at h2;obtain⟨hk,hm2⟩:=List.getElem?_eq_some_iff.1 hm;obtain⟨g,e,lg,hc⟩:=h2.rowAt (l:=matchP x.code) (f:=fun z=>[Value.int .i64 z]) (fun _=>rfl) 0 (i:=k) hk
 refine⟨g,D.mc,?_,lg,?_⟩
 ·rw[←e]
  have:=h1.blk.cell 2
  rw[AR x D 2 (by omega)] at this
  exact this
 ·have:=hc 0 (by omega)
  rw[Nat.mul_one,Nat.add_zero,gD,hm] at this;exact this
theorem Dj (x:PIt)(D:ItD)(h:x.regs.length=8)(f:Nat):(itC x D).setIfInBounds 5 (.int .i64 f)=itC {x with fin:=f} D:=by
 obtain⟨code,fin,err,regs,out,at_,next,left,opens⟩:=x;simp only at h;obtain⟨r0,r1,r2,r3,r4,r5,r6,r7,rfl⟩:=Bq h;rfl
theorem BT (x:PIt)(D:ItD)(h:x.regs.length=8)(f:Nat):(itC x D).setIfInBounds 16 (.int .i64 f)=itC {x with next:=f} D:=by
 obtain⟨code,fin,err,regs,out,at_,next,left,opens⟩:=x;simp only at h;obtain⟨r0,r1,r2,r3,r4,r5,r6,r7,rfl⟩:=Bq h;rfl
theorem Az {ω w:World}{F:HP}{b vb:Nat}{x y:PIt}{v:PVw}(h:Sat ω w (itH b vb x v*F))(i:Nat)(u:Value)(e:∀D,(itC x D).setIfInBounds i u=itC y D)(hc:y.code=x.code)(ho:y.opens=x.opens)(hu:y.out=x.out):Sat ω (w.setCell (κ b i) u) (itH b vb y v*F):=by
 obtain⟨D,hD,hx⟩:=AL h;unfold itX at hx;have h2:=hx.assoc.put i u (e D);refine Ae (D:=D) hD ?_;unfold itX;rw[hc,ho,hu];exact h2.assoc'
theorem NV (b vb:Nat)(x:PIt)(v:PVw)(h:Sat ω w (itH b vb x v*F))(hr:x.regs.length=8)(ho:v.ok)(hn:x.opens.length≤100)(hl:x.out.length≤100)(a' b' c' n':Int):
  Calls prog 215 #[.pointer b,.agg #[ι 17,a',b',c',υ n']] w (Rets ω F (.int .i64 ((x.begin v 17 x.at_).1:Int)) (itH b vb (x.begin v 17 x.at_).2.1 (x.begin v 17 x.at_).2.2)):=by
 obtain⟨D,hD,hx⟩:=AL h;have HB:Hid (∀o,Calls prog 251 #[.pointer b,ι 17,x.at_] (w.alloc o).drew (Rets ω F (.int .i64 ((x.begin v 17 x.at_).1:Int)) (itH b vb (x.begin v 17 x.at_).2.1 (x.begin v 17 x.at_).2.2))):=h_ (fun o=>Id ω _ F b vb x v (h.junk o).drew hr ho hn hl 17 x.at_)
 have lb:=hx.assoc.blk.lt;have lb1:b<w.heap.size+1:=by omega
 have c1:∀o,(w.alloc o).cell? (κ b 15)=some (.int .i64 x.at_):=fun o=>by
  have h9:=(hx.junk o).assoc.blk.cell 15;rw[show(15:Nat)=14+1 from rfl,AN x D 1 hr (by omega)] at h9
  exact h9
 generalize x.begin v 17 x.at_=r at *
 generalize x.at_=at_ at *
 clear h hx hD hr ho hn hl;go_enter func215,ntmps215;go_wp2;refine rT 7 ?_;simp only[sD,sE,sF,sG];repeat still_step
 refine wpStill_nil ?_;go_wp2_with (go_at_call 251;refine(HB.o _).mono ?_;rintro e w1 ⟨rfl,hs⟩;have HS:=h_ hs;clear hs);go_ret;exact⟨rfl,HS.o⟩
theorem NT (b vb:Nat)(x:PIt)(v:PVw)(h:Sat ω w (itH b vb x v*F))(hr:x.regs.length=8)(ho:v.ok)(hn:x.opens.length≤100)(h0:x.opens≠[])(hall:∀p∈x.opens,p.regs.length=8)(a' b' c' n':Int):
  Calls prog 215 #[.pointer b,.agg #[ι 19,a',b',c',υ n']] w (Rets ω F (.int .i64 v.keep.1) (itH b vb x.leave.2 v.keep.2)):=by
 have e9:x.opens=x.opens.dropLast++[x.opens.getLast h0]:=(List.dropLast_concat_getLast h0).symm;have hl2:x.opens.dropLast.length≤100:=by simp;omega
 have HL:Hid (∀o,Calls prog 252 #[.pointer b] (w.alloc o) (Rets ω F (.agg (ptV (x.opens.getLast h0)).toArray) (itH b vb x.leave.2 v))):=h_ (fun o=>Eo ω _ F b vb x v (h.junk o) hr x.opens.dropLast _ e9 (hall _ (List.getLast_mem h0)) (fun p hp=>hall p (List.dropLast_subset _ hp)) hl2)
 have HC:Hid (∀w1,Sat ω w1 (itH b vb x.leave.2 v*F)→w1.cell? (κ b 1)=some (.pointer vb)∧b<w1.heap.size∧Calls prog 253 #[.pointer vb] w1 (Rets ω F (.int .i64 v.keep.1) (itH b vb x.leave.2 v.keep.2))):=h_ (fun w1 h1=>by
  obtain⟨D,hD,hx⟩:=AL h1;have h9:=hx.assoc.blk.cell 1;rw[AR _ D 1 (by omega)] at h9
  refine⟨by rw[h9,←hD];rfl,hx.assoc.blk.lt,?_⟩
  refine(LM ω w1 _ vb v hx.swap ho).mono ?_;rintro e w2 ⟨rfl,h2⟩;exact⟨rfl,Ae hD h2.swap⟩)
 generalize v.keep=r at *
 generalize x.leave.2=y at *
 generalize (ptV (x.opens.getLast h0)).toArray=pv at *
 clear h hr ho hn e9 hl2 hall;go_enter func215,ntmps215;go_wp2_with (first
  |(go_at_call 252;refine(HL.o _).mono ?_;rintro e w1 ⟨rfl,hs⟩;obtain⟨q1,q2,q3⟩:=HC.o _ hs;have HK:=h_ q3;clear hs q3)
  |(go_at_call 253;refine(HK.o).mono ?_;rintro e w1 ⟨rfl,hs⟩;have HS:=h_ hs;clear hs))
 go_ret;exact⟨rfl,HS.o⟩
theorem NU (b vb:Nat)(x:PIt)(v:PVw)(h:Sat ω w (itH b vb x v*F))(hr:x.regs.length=8)(ho:v.ok)(hn:x.opens.length≤100)(h0:x.opens≠[])(hall:∀p∈x.opens,p.regs.length=8)(m:Nat)(hm:(matchP x.code)[x.at_]?=some (m:Int))(hm9:m≤1000)(a' b' c' n':Int):
  Calls prog 215 #[.pointer b,.agg #[ι 18,a',b',c',υ n']] w (Rets ω F (.int .i64 v.keep.1) (itH b vb {x.leave.2 with next:=m+1} v.keep.2)):=by
 have e9:x.opens=x.opens.dropLast++[x.opens.getLast h0]:=(List.dropLast_concat_getLast h0).symm;have hl2:x.opens.dropLast.length≤100:=by simp;omega
 have HL:Hid (∀o,Calls prog 252 #[.pointer b] (w.alloc o) (Rets ω F (.agg (ptV (x.opens.getLast h0)).toArray) (itH b vb x.leave.2 v))):=h_ (fun o=>Eo ω _ F b vb x v (h.junk o) hr x.opens.dropLast _ e9 (hall _ (List.getLast_mem h0)) (fun p hp=>hall p (List.dropLast_subset _ hp)) hl2)
 have HM:Hid (∀w1,Sat ω w1 (itH b vb x.leave.2 v*F)→∃g c n,w1.cell? (κ b 2)=some (.slice (some ⟨g,0,none⟩) n c)∧g<w1.heap.size∧w1.cell? (κ g x.at_)=some (.int .i64 m)∧x.at_<n∧w1.cell? (κ b 15)=some (.int .i64 x.at_)∧b<w1.heap.size∧(∀i,w1.frozen? (κ b i)=false)∧w1.cell? (κ b 1)=some (.pointer vb)∧∃nx,w1.cell? (κ b 16)=some (.int .i64 nx)):=h_ (fun w1 h1=>by
  obtain⟨g,c,q1,q2,q3⟩:=Ic h1 (k:=x.at_) (m:=m) hm;obtain⟨D,hD,hx⟩:=AL h1;have hb:=hx.assoc.blk;refine⟨g,c,_,q1,q2,q3,(List.getElem?_eq_some_iff.1 hm).1,?_,hb.lt,hb.frozen,by rw[hb.cell,AR _ D 1 (by omega),←hD];rfl,(x.next:Int),?_⟩
  ·rw[hb.cell,show(15:Nat)=14+1 from rfl,AN x.leave.2 D 1 hr (by omega)];rfl
  ·rw[hb.cell,show(16:Nat)=14+2 from rfl,AN x.leave.2 D 2 hr (by omega)];rfl)
 have HW:Hid (∀w1,Sat ω w1 (itH b vb x.leave.2 v*F)→Sat ω (w1.setCell (κ b 16) (.int .i64 ((m:Int)+1))) (itH b vb {x.leave.2 with next:=m+1} v*F)):=h_ (fun w1 h1=>Az h1 16 _ (fun D=>BT x.leave.2 D hr (m+1)) rfl rfl rfl)
 have HC:Hid (∀w1,Sat ω w1 (itH b vb {x.leave.2 with next:=m+1} v*F)→w1.cell? (κ b 1)=some (.pointer vb)∧b<w1.heap.size∧Calls prog 253 #[.pointer vb] w1 (Rets ω F (.int .i64 v.keep.1) (itH b vb {x.leave.2 with next:=m+1} v.keep.2))):=h_ (fun w1 h1=>by
  obtain⟨D,hD,hx⟩:=AL h1;have h9:=hx.assoc.blk.cell 1;rw[AR _ D 1 (by omega)] at h9
  refine⟨by rw[h9,←hD];rfl,hx.assoc.blk.lt,?_⟩
  refine(LM ω w1 _ vb v hx.swap ho).mono ?_;rintro e w2 ⟨rfl,h2⟩;exact⟨rfl,Ae hD h2.swap⟩)
 generalize v.keep=r at *
 generalize ({x.leave.2 with next:=m+1}:PIt)=y2 at *
 generalize x.leave.2=y at *
 generalize (ptV (x.opens.getLast h0)).toArray=pv at *
 generalize x.at_=AT at *
 clear h hr ho hn e9 hl2 hall hm;have hmI:(m:Int)≤1000:=by omega
 have hm0:0≤(m:Int):=by omega
 go_enter func215,ntmps215;go_wp2_with (go_at_call 252;refine(HL.o _).mono ?_;rintro e w1 ⟨rfl,hs⟩;obtain⟨g,c,n,q1,q2,q3,q4,q5,q6,q7,q9,nx,q8⟩:=HM.o _ hs;have HK:=h_ (HC.o _ (HW.o _ hs.drew)).2.2;clear hs);refine rT 14 ?_;simp only[sD,sE,sF,sG];repeat still_step
 refine wpStill_nil ?_;go_wp2_with (go_at_call 253;refine(HK.o).mono ?_;rintro e w1 ⟨rfl,hs⟩;have HS:=h_ hs;clear hs);go_ret;exact⟨rfl,HS.o⟩
end
def U64 (n:Nat):Prop:=n<18446744073709551616
theorem U64.zero:U64 0:=by unfold U64;omega
def wFine (l:PWr):Prop:=l.length≤96∧∀x∈l,x.1≤1000000∧U64 x.2
theorem wFine.nil:wFine []:=⟨by simp,by simp⟩
theorem Fg {l:PWr}(h:wFine l){p v:Nat}(hp:p≤1000000)(hv:U64 v):wFine (wPut 96 l p v).2:=by
 unfold wPut;split
 ·exact h
 ·split
  ·refine⟨by simpa using h.1,fun x hx=>?_⟩
   rcases List.mem_or_eq_of_mem_set hx with h1|h1
   ·exact h.2 x h1
   ·subst h1;exact⟨hp,hv⟩
  ·split
   ·exact h
   ·refine⟨by simp;omega,fun x hx=>?_⟩
    simp only[List.mem_append,List.mem_singleton] at hx;rcases hx with hx|rfl
    ·exact h.2 x hx
    ·exact⟨hp,hv⟩
theorem Da:∀(s:PWr) {l:PWr},wFine l→(∀x∈s,x.1≤1000000∧U64 x.2)→wFine (wTakeF 96 l s).2
 | [],l,h,_=>h
 |c::s,l,h,hs=>by
  unfold wTakeF;simp only;have h1:=hs c List.mem_cons_self;have h2:=Fg h h1.1 h1.2;split
  ·exact h2
  ·exact Da s h2 fun x hx=>hs x (List.mem_cons_of_mem _ hx)
theorem CX {l s:PWr}(h:wFine l)(hs:∀x∈s,x.1≤1000000∧U64 x.2):wFine (wTake 96 l s).2:=by
 unfold wTake;simp only;split
 ·exact h
 ·exact Da s h hs
theorem MS {l:PWr}(h:wFine l){p y:Nat}(e:wGet l p=some y):U64 y:=by
 unfold wGet at e;obtain⟨i,hi,rfl⟩:=Option.map_eq_some_iff.1 e;unfold wAt at hi;have hlt:i<l.length:=by
  rw[List.findIdx?_eq_some_iff_getElem] at hi;exact hi.1
 rw[gD,List.getElem?_eq_getElem hlt];exact(h.2 _ (List.getElem_mem hlt)).2
structure PLv.fine (l:PLv):Prop where
 some_:l.rows≠[]
 few:l.rows.length≤6
 most:l.most≤96
 rows:∀r∈l.rows,wFine r
theorem PLv.fine.ok {l:PLv}(h:l.fine):l.ok:=⟨h.some_,h.few,h.most,fun r hr=>⟨(h.rows r hr).1,fun x hx=>((h.rows r hr).2 x hx).1⟩⟩
theorem PLv.fine.in_ {l:PLv}(h:l.fine):wFine l.inmost:=by
 unfold PLv.inmost;rw[List.getLastD_eq_getLast?];cases e:l.rows.getLast? with
 |none=>exact wFine.nil
 |some r=>exact h.rows r (List.mem_of_getLast? e)
theorem PLv.fine.setIn {l:PLv}(h:l.fine){w:PWr}(hw:wFine w):(l.setIn w).fine∧(l.setIn w).rows.length=l.rows.length:=by
 have hp:0<l.rows.length:=List.length_pos_iff.2 h.some_;have hl:(l.setIn w).rows.length=l.rows.length:=by simp[PLv.setIn];omega
 refine⟨⟨by simp[PLv.setIn],by rw[hl];exact h.few,h.most,fun r hr=>?_⟩,hl⟩
 simp only[PLv.setIn,List.mem_append,List.mem_singleton] at hr;rcases hr with hr|rfl
 ·exact h.rows r (List.dropLast_subset _ hr)
 ·exact hw
theorem PLv.fine.open_ {l:PLv}(h:l.fine):l.open_.2.fine∧(l.open_.1=0→l.open_.2.rows.length=l.rows.length+1)∧(l.open_.1=0∨l.open_.1=9)∧(l.open_.1≠0→l.open_.2=l):=by
 unfold PLv.open_;split
 ·exact⟨h,by simp,.inr rfl,fun _=>rfl⟩
 ·refine⟨⟨by simp,by simp;omega,h.most,fun r hr=>?_⟩,by simp,.inl rfl,by simp⟩
  simp only[List.mem_append,List.mem_singleton] at hr;rcases hr with hr|rfl
  ·exact h.rows r hr
  ·exact wFine.nil
theorem PLv.fine.drop {l:PLv}(h:l.fine):l.drop.2.fine∧(l.drop.1=0→l.drop.2.rows.length+1=l.rows.length)∧(l.drop.1=0∨l.drop.1=10):=by
 unfold PLv.drop;split
 ·exact⟨h,by simp,.inr rfl⟩
 ·rename_i h1;have hp:0<l.rows.length:=List.length_pos_iff.2 h.some_;refine⟨⟨?_,?_,h.most,fun r hr=>h.rows r (List.dropLast_subset _ hr)⟩,?_,.inl rfl⟩
  ·intro e
   have:=congrArg List.length e
   simp at this;omega
  ·have:=h.few
   simp;omega
  ·intro _;simp;omega
theorem Hl (most:Nat)(w:PWr)(p v:Nat):(wPut most w p v).1=0∨(wPut most w p v).1=2∨(wPut most w p v).1=5:=by
 unfold wPut;split
 ·simp
 ·split
  ·simp
  ·split<;>simp
theorem EM (most:Nat):∀s w:PWr,(wTakeF most w s).1=0∨(wTakeF most w s).1=2∨(wTakeF most w s).1=5
 | [],w=>.inl rfl
 |c::s,w=>by
  unfold wTakeF;simp only;split
  ·exact Hl _ _ _ _
  ·exact EM most s _
theorem MR (most:Nat)(w s:PWr):(wTake most w s).1=0∨(wTake most w s).1=2∨(wTake most w s).1=5:=by
 unfold wTake;simp only;split<;>exact EM most s w
theorem PLv.fine.keep {l:PLv}(h:l.fine):l.keep.2.fine∧(l.keep.1=0→l.keep.2.rows.length+1=l.rows.length)∧l.keep.1≠11:=by
 unfold PLv.keep;simp only;obtain⟨h1,h2,h3⟩:=h.drop;split
 ·rename_i h4;exact⟨h1,fun e=>absurd e h4,by omega⟩
 ·rename_i h4;have h5:=h1.setIn (CX h1.in_ (fun x hx=>(h.in_).2 x hx))
  have h6:=MR 96 l.drop.2.inmost l.inmost;exact⟨h5.1,fun _=>by rw[h5.2];exact h2 (by omega),by omega⟩
theorem PLv.fine.put {l:PLv}(h:l.fine){p v:Nat}(hp:p≤1000000)(hv:U64 v):(l.put p v).2.fine∧(l.put p v).2.rows.length=l.rows.length∧(l.put p v).1≠11:=by
 unfold PLv.put;split
 ·exact⟨h,rfl,by simp⟩
 ·split
  ·exact⟨h,rfl,by simp⟩
  ·have h5:=h.setIn (Fg h.in_ hp hv);have h6:=Hl 96 l.inmost p v;exact⟨h5.1,h5.2,by simp only;omega⟩
theorem Fy (p:Nat):∀l:List PWr,(∀r∈l,wFine r)→∀y,PLv.getF l p=some y→U64 y
 | [],_,y,e=>by cases e
 |r::l,h,y,e=>by
  unfold PLv.getF at e;cases hg:wGet r p with
  |some z =>
   rw[hg] at e;simp at e;subst e;exact MS (h r List.mem_cons_self) hg
  |none =>
   rw[hg] at e;simp at e;exact Fy p l (fun r hr=>h r (List.mem_cons_of_mem _ hr)) y e
theorem PLv.fine.get {l:PLv}(h:l.fine){p y:Nat}(e:l.get p=some y):U64 y :=
 Fy p _ (fun r hr=>h.rows r (List.mem_reverse.1 hr)) y e
theorem Dn:∀(l:List PWr),(∀r∈l,wFine r)→∀out:PWr,wFine out→wFine (l.foldl (fun out r=>(wTake 96 (wTake 96 [] r).2 out).2) out)
 | [],_,out,ho=>ho
 |r::l,h,out,ho=>by
  refine Dn l (fun q hq=>h q (List.mem_cons_of_mem _ hq)) _ ?_
  exact CX (CX wFine.nil (h r List.mem_cons_self).2) ho.2
theorem PLv.fine.cells {l:PLv}(h:l.fine):wFine l.cells :=
 Dn _ (fun r hr=>h.rows r (List.mem_reverse.1 hr)) [] wFine.nil
structure PVw.fine (v:PVw):Prop where
 logs:v.logs.fine
 facts:v.facts.length≤256
 cnt:v.order.length=v.facts.countP Option.isSome
 places:∀p∈v.order,p<v.facts.length
 lim:∀k y,v.facts.getD k none=some y→U64 y
 need:v.need≤1000000
theorem PVw.fine.ok {v:PVw}(h:v.fine):v.ok:=⟨h.logs.ok,h.facts,by rw[h.cnt];exact List.countP_le_length,h.places⟩
theorem PVw.fine.log {v:PVw}(h:v.fine){l:PLv}(hl:l.fine):PVw.fine {v with logs:=l}:=⟨hl,h.facts,h.cnt,h.places,h.lim,h.need⟩
theorem PVw.fine.read {v:PVw}(h:v.fine)(p:Nat):(v.read p).2.2.fine∧(v.read p).2.2.logs=v.logs∧((v.read p).2.1=0→U64 (v.read p).1)∧((v.read p).2.1=11→v.is p=true∧(v.read p).2.2.need=p∧v.facts.getD p none=none)∧(v.read p).2.2.facts=v.facts∧(v.read p).2.2.order=v.order:=by
 unfold PVw.read;split
 ·exact⟨h,rfl,by simp,by simp,rfl,rfl⟩
 ·rename_i hi;have hi':v.is p=true:=by simpa using hi
  have hp:p≤1000000:=by
   unfold PVw.is at hi';simp at hi'
   have:=h.facts
   omega
  split
  ·rename_i x hx;exact⟨h,rfl,fun _=>h.logs.get hx,by simp,rfl,rfl⟩
  ·split
   ·rename_i x hx;exact⟨h,rfl,fun _=>h.lim p x hx,by simp,rfl,rfl⟩
   ·rename_i hx;exact⟨⟨h.logs,h.facts,h.cnt,h.places,h.lim,hp⟩,rfl,by simp,fun _=>⟨hi',rfl,hx⟩,rfl,rfl⟩
theorem PVw.fine.write {v:PVw}(h:v.fine){p x:Nat}(hp:p≤1000000)(hx:U64 x):(v.write p x).2.fine∧(v.write p x).2.logs.rows.length=v.logs.rows.length∧(v.write p x).1≠11:=by
 unfold PVw.write;split
 ·exact⟨h,rfl,by simp⟩
 ·have h1:=h.logs.put hp hx;exact⟨h.log h1.1,h1.2.1,h1.2.2⟩
theorem PVw.fine.know {v:PVw}(h:v.fine){p x:Nat}(hx:U64 x):(v.know p x).2.fine∧(v.know p x).2.logs=v.logs∧(v.know p x).2.need=v.need:=by
 unfold PVw.know;split
 ·exact⟨h,rfl,rfl⟩
 ·rename_i hi;have hi':v.is p=true:=by simpa using hi
  have hp:p<v.facts.length:=by
   unfold PVw.is at hi';simp at hi';omega
  split
  ·exact⟨h,rfl,rfl⟩
  ·rename_i hf;have hn:v.facts[p]=none:=by
    rw[gD,List.getElem?_eq_getElem hp] at hf;exact hf
   refine⟨⟨h.logs,by simpa using h.facts,?_,fun q hq=>?_,fun k y hk=>?_,h.need⟩,rfl,rfl⟩
   ·simp only[List.length_append,List.length_singleton];rw[List.countP_set hp,hn,h.cnt];simp
   ·simp only[List.mem_append,List.mem_singleton,List.length_set] at hq ⊢;rcases hq with hq|rfl
    ·exact h.places q hq
    ·exact hp
   ·simp only[gD,List.getElem?_set] at hk;by_cases e:p=k
    ·rw[if_pos e,if_pos hp] at hk;simp at hk;subst hk;exact hx
    ·rw[if_neg e] at hk;exact h.lim k y (by rw[gD];exact hk)
end Go.Proofs.YtfodmgaliclhfaaGreatDoor
