/- Lemmas for TopPairs; no conditions. -/
import Derived.Test.YtfodmgaliclhfaaGreatDoorGOkRun
import Derived.Test.YtfodmgaliclhfaaGreatDoorGAtLater
namespace Go.Proofs.YtfodmgaliclhfaaGreatDoor
set_option linter.unusedVariables false
set_option linter.unusedSimpArgs false
set_option maxRecDepth 100000
set_option maxHeartbeats 8000000
open Go.RowKit
section
variable (ω w : World) (F : HP)
structure IpC (w:World) (b:Nat) (x:PIt) (ka kb kc:Nat):Prop where
 ca:w.cell? ⟨b,6+ka,none⟩=some (.int .u64 ((x.regs.getD ka 0:Nat):Int))
 cb:w.cell? ⟨b,6+kb,none⟩=some (.int .u64 ((x.regs.getD kb 0:Nat):Int))
 cc:w.cell? ⟨b,6+kc,none⟩=some (.int .u64 ((x.regs.getD kc 0:Nat):Int))
 fz:∀i,w.frozen? ⟨b,i,none⟩=false
 lt:b<w.heap.size
theorem ipC_of {ω w:World}{F:HP}{b vb:Nat}{x:PIt}{v:PVw}(h:Sat ω w (itH b vb x v*F))(hr:x.regs.length=8){ka kb kc:Nat}(h1:ka<8)(h2:kb<8)(h3:kc<8):IpC w b x ka kb kc:=by
 obtain⟨D,hD,hx⟩:=itH_of h;have hb:=hx.assoc.blk;exact⟨by rw[hb.cell,itC_reg x D ka hr h1],by rw[hb.cell,itC_reg x D kb hr h2],by rw[hb.cell,itC_reg x D kc hr h3],hb.frozen,hb.lt⟩
theorem itH_reg {ω w:World}{F:HP}{b vb:Nat}{x:PIt}{v:PVw}(h:Sat ω w (itH b vb x v*F))(hr:x.regs.length=8)(k:Nat)(hk:k<8)(r:Nat):Sat ω (w.setCell ⟨b,6+k,none⟩ (.int .u64 r)) (itH b vb { x with regs:=x.regs.set k r } v*F):=by
 obtain⟨D,hD,hx⟩:=itH_of h;exact itH_set hD hx.swap hr k hk r
theorem slNum_of {ω w:World}{F:HP}{b vb:Nat}{x:PIt}{v:PVw}{D:ItD}(hD:D.vb=vb)(h:Sat ω w (itX b x D*(vwH vb v*F)))(hl:x.out.length≤1000)(n:Nat):
  Calls Tryz.prog 212 #[.pointer (some ⟨D.sb,0,none⟩),.int .u64 n] w (Rets ω F (.bool (decide (x.out.length<16))) (itH b vb { x with out:=if x.out.length<16 then x.out++[.num n] else x.out } v)):=by
 unfold itX at h;have h1:Sat ω w (slH D.sb x.out*(bk b 245 (itC x D)*(row 87 5 (.slice D.pA x.code.length D.pc) x.code.length (x.code.flatMap insV)*(row 3 1 (.slice D.mA (matchP x.code).length D.mc) (matchP x.code).length ((matchP x.code).map (Value.int .i64))*(row 346 11 (.slice D.oA x.opens.length D.oc) x.opens.length (x.opens.flatMap ptV)*(vwH vb v*F)))))):=h.perm (by ac_rfl)
 refine(sl_addNum ω w _ D.sb x.out h1 hl n).mono ?_;rintro e w' ⟨rfl,h2⟩;refine⟨rfl,itH_to (D:=D) hD ?_⟩;exact h2.perm (by unfold itX itC;simp only;ac_rfl)
theorem ip_do1 (b vb:Nat)(x:PIt)(v:PVw)(h:Sat ω w (itH b vb x v*F))(hr:x.regs.length=8)(ka kb kc n:Nat)(h1:ka<8)(h2:kb<8)(h3:kc≤40):
  Calls Tryz.prog 183 #[.pointer (some ⟨b,0,none⟩),.agg #[.int .i64 1,.int .i64 ka,.int .i64 kb,.int .i64 kc,.int .u64 n]] w (Rets ω F (.int .i64 (0)) (itH b vb ({ x with regs:=x.regs.set ka n }) (v))):=by
 obtain⟨m,hm⟩:∃m,kc%8=m:=⟨_,rfl⟩;have hC:∀o,IpC (w.alloc o) b x ka kb m:=fun o=>ipC_of (h.junk o) hr h1 h2 (by omega)
 have ca:=fun o=>(hC o).ca
 have cb:=fun o=>(hC o).cb
 have cc:=fun o=>(hC o).cc
 have fz:=fun o=>(hC o).fz
 have lb1:b<w.heap.size+1:=by have:=(hC (.cells #[] 0)).lt;simpa using this
 have HX:Hid (∀o q,Sat ω ((w.alloc o).drewN q) (itH b vb x v*F)):=h_ (fun o q=>(h.junk o).drewN q)
 have ta:Int.tmod (ka:Int) 8=(ka:Int):=by rw[Int.tmod_eq_emod_of_nonneg (by omega)];omega
 have tb:Int.tmod (kb:Int) 8=(kb:Int):=by rw[Int.tmod_eq_emod_of_nonneg (by omega)];omega
 have tc:Int.tmod (kc:Int) 8=(m:Int):=by rw[Int.tmod_eq_emod_of_nonneg (by omega)];omega
 have ga:(ka:Int)<8:=by omega
 have gb:(kb:Int)<8:=by omega
 have gm:(m:Int)<8:=by omega
 have HS:Hid (∀w1 (r:Nat),Sat ω w1 (itH b vb x v*F)→Sat ω (w1.setCell ⟨b,6+ka,none⟩ (.int .u64 r)) (itH b vb { x with regs:=x.regs.set ka r } v*F)):=h_ (fun w1 r hw=>itH_reg hw hr ka h1 r)
 generalize x.regs.getD ka 0=RA at *
 generalize x.regs.getD kb 0=RB at *
 generalize x.regs.getD m 0=RC at *
 clear h hC hr;go_enter Tryz.func183,Tryz.ntmps183;go_wp2;go_quiet (fail);go_wp2;go_ret;exact⟨rfl,HS.o _ _ (HX.o _ _)⟩
theorem ip_do3 (b vb:Nat)(x:PIt)(v:PVw)(h:Sat ω w (itH b vb x v*F))(hr:x.regs.length=8)(ka kb kc n:Nat)(h1:ka<8)(h2:kb<8)(h3:kc≤40):
  Calls Tryz.prog 183 #[.pointer (some ⟨b,0,none⟩),.agg #[.int .i64 3,.int .i64 ka,.int .i64 kb,.int .i64 kc,.int .u64 n]] w (Rets ω F (.int .i64 (0)) (itH b vb ({ x with regs:=x.regs.set ka ((x.regs.getD kb 0+x.regs.getD (kc%8) 0)%18446744073709551616) }) (v))):=by
 obtain⟨m,hm⟩:∃m,kc%8=m:=⟨_,rfl⟩;have hC:∀o,IpC (w.alloc o) b x ka kb m:=fun o=>ipC_of (h.junk o) hr h1 h2 (by omega)
 have ca:=fun o=>(hC o).ca
 have cb:=fun o=>(hC o).cb
 have cc:=fun o=>(hC o).cc
 have fz:=fun o=>(hC o).fz
 have lb1:b<w.heap.size+1:=by have:=(hC (.cells #[] 0)).lt;simpa using this
 have HX:Hid (∀o q,Sat ω ((w.alloc o).drewN q) (itH b vb x v*F)):=h_ (fun o q=>(h.junk o).drewN q)
 have ta:Int.tmod (ka:Int) 8=(ka:Int):=by rw[Int.tmod_eq_emod_of_nonneg (by omega)];omega
 have tb:Int.tmod (kb:Int) 8=(kb:Int):=by rw[Int.tmod_eq_emod_of_nonneg (by omega)];omega
 have tc:Int.tmod (kc:Int) 8=(m:Int):=by rw[Int.tmod_eq_emod_of_nonneg (by omega)];omega
 have ga:(ka:Int)<8:=by omega
 have gb:(kb:Int)<8:=by omega
 have gm:(m:Int)<8:=by omega
 rw[hm];have HS:Hid (∀w1 (r:Nat),Sat ω w1 (itH b vb x v*F)→Sat ω (w1.setCell ⟨b,6+ka,none⟩ (.int .u64 r)) (itH b vb { x with regs:=x.regs.set ka r } v*F)):=h_ (fun w1 r hw=>itH_reg hw hr ka h1 r)
 generalize x.regs.getD ka 0=RA at *
 generalize x.regs.getD kb 0=RB at *
 generalize x.regs.getD m 0=RC at *
 clear h hC hr;have hw:IntKind.u64.wrap ((RB:Int)+(RC:Int))=(((RB+RC)%18446744073709551616:Nat):Int):=by rw[IntKind.wrap_u64];omega
 go_enter Tryz.func183,Tryz.ntmps183;go_wp2;go_quiet (fail);go_wp2;go_ret;refine⟨rfl,?_⟩;first
  |exact HS.o _ _ (HX.o _ _)
  |((have h9:=HS.o _ ((RB+RC)%18446744073709551616) (HX.o _ _));rw[←hw] at h9;exact h9)
theorem ip_do21 (b vb:Nat)(x:PIt)(v:PVw)(h:Sat ω w (itH b vb x v*F))(hr:x.regs.length=8)(hl:x.out.length≤16)(ka kb kc n:Nat)(h1:ka<8)(h2:kb<8)(h3:kc≤40):
  Calls Tryz.prog 183 #[.pointer (some ⟨b,0,none⟩),.agg #[.int .i64 21,.int .i64 ka,.int .i64 kb,.int .i64 kc,.int .u64 n]] w (Rets ω F (.int .i64 ((if 16≤x.out.length then 5 else 0:Nat))) (itH b vb ({ x with out:=if x.out.length<16 then x.out++[.num (x.regs.getD ka 0)] else x.out }) (v))):=by
 obtain⟨m,hm⟩:∃m,kc%8=m:=⟨_,rfl⟩;have hC:∀o,IpC (w.alloc o) b x ka kb m:=fun o=>ipC_of (h.junk o) hr h1 h2 (by omega)
 have ca:=fun o=>(hC o).ca
 have cb:=fun o=>(hC o).cb
 have cc:=fun o=>(hC o).cc
 have fz:=fun o=>(hC o).fz
 have lb1:b<w.heap.size+1:=by have:=(hC (.cells #[] 0)).lt;simpa using this
 have HX:Hid (∀o q,Sat ω ((w.alloc o).drewN q) (itH b vb x v*F)):=h_ (fun o q=>(h.junk o).drewN q)
 have ta:Int.tmod (ka:Int) 8=(ka:Int):=by rw[Int.tmod_eq_emod_of_nonneg (by omega)];omega
 have tb:Int.tmod (kb:Int) 8=(kb:Int):=by rw[Int.tmod_eq_emod_of_nonneg (by omega)];omega
 have tc:Int.tmod (kc:Int) 8=(m:Int):=by rw[Int.tmod_eq_emod_of_nonneg (by omega)];omega
 have ga:(ka:Int)<8:=by omega
 have gb:(kb:Int)<8:=by omega
 have gm:(m:Int)<8:=by omega
 obtain⟨D,hD,hx⟩:=itH_of h;have c14:∀o q,((w.alloc o).drewN q).cell? ⟨b,14,none⟩=some (.pointer (some ⟨D.sb,0,none⟩)):=fun o q=>by
  have h9:=((hx.junk o).drewN q).assoc.blk.cell 14;rw[show(14:Nat)=14+0 from rfl,itC_post x D 0 hr (by omega)] at h9
  exact h9
 have ca2:∀o q,((w.alloc o).drewN q).cell? ⟨b,6+ka,none⟩=some (.int .u64 ((x.regs.getD ka 0:Nat):Int)):=fun o q=>(ipC_of ((h.junk o).drewN q) hr h1 h2 (show 0<8 by omega)).ca
 have HA:Hid (∀o q,Calls Tryz.prog 212 #[.pointer (some ⟨D.sb,0,none⟩),.int .u64 ((x.regs.getD ka 0:Nat):Int)] ((w.alloc o).drewN q).drew (Rets ω F (.bool (decide (x.out.length<16))) (itH b vb { x with out:=if x.out.length<16 then x.out++[.num (x.regs.getD ka 0)] else x.out } v))):=h_ (fun o q=>slNum_of hD (((hx.junk o).drewN q).drew) (by omega) _)
 obtain⟨y,hy⟩:∃y,y=({ x with out:=if x.out.length<16 then x.out++[.num (x.regs.getD ka 0)] else x.out }:PIt):=⟨_,rfl⟩
 rw[←hy] at HA ⊢;have hd:(if 16≤x.out.length then 5 else 0:Nat)=if decide (x.out.length<16)=true then 0 else 5:=by by_cases h9:x.out.length<16<;>simp[h9]<;>omega
 rw[hd];generalize decide (x.out.length<16)=d at *
 generalize D.sb=sb at *
 clear hy hd hl hx hD;generalize x.regs.getD ka 0=RA at *
 generalize x.regs.getD kb 0=RB at *
 generalize x.regs.getD m 0=RC at *
 clear h hC hr;cases d
 ·rw[if_neg (by simp)]
  go_enter Tryz.func183,Tryz.ntmps183;go_wp2;go_quiet (fail);go_wp2;refine rT 7 ?_;simp only[sD,sE,sF,sG];repeat still_step
  refine wpStill_nil ?_;go_wp2_with (go_at_call 212;refine(HA.o _ _).mono ?_;rintro e w1 ⟨rfl,hs⟩;have HZ:=h_ hs;clear hs);go_ret;exact⟨rfl,HZ.o⟩
 ·rw[if_pos rfl];go_enter Tryz.func183,Tryz.ntmps183;go_wp2;go_quiet (fail);go_wp2;refine rT 7 ?_;simp only[sD,sE,sF,sG];repeat still_step
  refine wpStill_nil ?_;go_wp2_with (go_at_call 212;refine(HA.o _ _).mono ?_;rintro e w1 ⟨rfl,hs⟩;have HZ:=h_ hs;clear hs);go_ret;exact⟨rfl,HZ.o⟩
theorem ip_do8 (b vb:Nat)(x:PIt)(v:PVw)(h:Sat ω w (itH b vb x v*F))(hr:x.regs.length=8)(ho:v.ok)(ka kb kc n:Nat)(h1:ka<8)(h2:kb<8)(h3:kc≤40):
  Calls Tryz.prog 183 #[.pointer (some ⟨b,0,none⟩),.agg #[.int .i64 8,.int .i64 ka,.int .i64 kb,.int .i64 kc,.int .u64 n]] w (Rets ω F (.int .i64 (((loadP x v ka (x.regs.getD kb 0) (kc:Int)).1:Int))) (itH b vb ((loadP x v ka (x.regs.getD kb 0) (kc:Int)).2.1) ((loadP x v ka (x.regs.getD kb 0) (kc:Int)).2.2))):=by
 obtain⟨m,hm⟩:∃m,kc%8=m:=⟨_,rfl⟩;have hC:∀o,IpC (w.alloc o) b x ka kb m:=fun o=>ipC_of (h.junk o) hr h1 h2 (by omega)
 have ca:=fun o=>(hC o).ca
 have cb:=fun o=>(hC o).cb
 have cc:=fun o=>(hC o).cc
 have fz:=fun o=>(hC o).fz
 have lb1:b<w.heap.size+1:=by have:=(hC (.cells #[] 0)).lt;simpa using this
 have HX:Hid (∀o q,Sat ω ((w.alloc o).drewN q) (itH b vb x v*F)):=h_ (fun o q=>(h.junk o).drewN q)
 have ta:Int.tmod (ka:Int) 8=(ka:Int):=by rw[Int.tmod_eq_emod_of_nonneg (by omega)];omega
 have tb:Int.tmod (kb:Int) 8=(kb:Int):=by rw[Int.tmod_eq_emod_of_nonneg (by omega)];omega
 have tc:Int.tmod (kc:Int) 8=(m:Int):=by rw[Int.tmod_eq_emod_of_nonneg (by omega)];omega
 have ga:(ka:Int)<8:=by omega
 have gb:(kb:Int)<8:=by omega
 have gm:(m:Int)<8:=by omega
 have HT:Hid (∀o q,Calls Tryz.prog 214 #[.pointer (some ⟨b,0,none⟩),.agg #[.int .i64 8,.int .i64 ka,.int .i64 kb,.int .i64 kc,.int .u64 n],.pointer (some ⟨b,6+ka,none⟩),.int .u64 ((x.regs.getD kb 0:Nat):Int)] ((w.alloc o).drewN q) (Rets ω F (.int .i64 ((loadP x v ka (x.regs.getD kb 0) (kc:Int)).1:Int)) (itH b vb (loadP x v ka (x.regs.getD kb 0) (kc:Int)).2.1 (loadP x v ka (x.regs.getD kb 0) (kc:Int)).2.2))):=h_ (fun o q=>ip_load ω _ F b vb x v ((h.junk o).drewN q) hr ho (ka:Int) (kb:Int) (kc:Int) (n:Int) (by omega) ka h1 (x.regs.getD kb 0))
 obtain⟨R,hR⟩:∃R,loadP x v ka (x.regs.getD kb 0) (kc:Int)=R:=⟨_,rfl⟩;rw[hR] at HT ⊢;clear hR ho;generalize x.regs.getD ka 0=RA at *
 generalize x.regs.getD kb 0=RB at *
 generalize x.regs.getD m 0=RC at *
 clear h hC hr;go_enter Tryz.func183,Tryz.ntmps183;go_wp2;go_quiet (fail);go_wp2_with (go_at_call 214;refine(HT.o _ _).mono ?_;rintro e w1 ⟨rfl,hs⟩;have HZ:=h_ hs;clear hs);go_ret;exact⟨rfl,HZ.o⟩
theorem ip_do9 (b vb:Nat)(x:PIt)(v:PVw)(h:Sat ω w (itH b vb x v*F))(hr:x.regs.length=8)(ho:v.ok)(ka kb kc n:Nat)(h1:ka<8)(h2:kb<8)(h3:kc≤40):
  Calls Tryz.prog 183 #[.pointer (some ⟨b,0,none⟩),.agg #[.int .i64 9,.int .i64 ka,.int .i64 kb,.int .i64 kc,.int .u64 n]] w (Rets ω F (.int .i64 (((storeP x v (x.regs.getD ka 0) (x.regs.getD kb 0) (kc:Int)).1:Int))) (itH b vb ((storeP x v (x.regs.getD ka 0) (x.regs.getD kb 0) (kc:Int)).2.1) ((storeP x v (x.regs.getD ka 0) (x.regs.getD kb 0) (kc:Int)).2.2))):=by
 obtain⟨m,hm⟩:∃m,kc%8=m:=⟨_,rfl⟩;have hC:∀o,IpC (w.alloc o) b x ka kb m:=fun o=>ipC_of (h.junk o) hr h1 h2 (by omega)
 have ca:=fun o=>(hC o).ca
 have cb:=fun o=>(hC o).cb
 have cc:=fun o=>(hC o).cc
 have fz:=fun o=>(hC o).fz
 have lb1:b<w.heap.size+1:=by have:=(hC (.cells #[] 0)).lt;simpa using this
 have HX:Hid (∀o q,Sat ω ((w.alloc o).drewN q) (itH b vb x v*F)):=h_ (fun o q=>(h.junk o).drewN q)
 have ta:Int.tmod (ka:Int) 8=(ka:Int):=by rw[Int.tmod_eq_emod_of_nonneg (by omega)];omega
 have tb:Int.tmod (kb:Int) 8=(kb:Int):=by rw[Int.tmod_eq_emod_of_nonneg (by omega)];omega
 have tc:Int.tmod (kc:Int) 8=(m:Int):=by rw[Int.tmod_eq_emod_of_nonneg (by omega)];omega
 have ga:(ka:Int)<8:=by omega
 have gb:(kb:Int)<8:=by omega
 have gm:(m:Int)<8:=by omega
 have HT:Hid (∀o q,Calls Tryz.prog 214 #[.pointer (some ⟨b,0,none⟩),.agg #[.int .i64 9,.int .i64 ka,.int .i64 kb,.int .i64 kc,.int .u64 n],.pointer (some ⟨b,6+ka,none⟩),.int .u64 ((x.regs.getD kb 0:Nat):Int)] ((w.alloc o).drewN q) (Rets ω F (.int .i64 ((storeP x v (x.regs.getD ka 0) (x.regs.getD kb 0) (kc:Int)).1:Int)) (itH b vb (storeP x v (x.regs.getD ka 0) (x.regs.getD kb 0) (kc:Int)).2.1 (storeP x v (x.regs.getD ka 0) (x.regs.getD kb 0) (kc:Int)).2.2))):=h_ (fun o q=>ip_store ω _ F b vb x v ((h.junk o).drewN q) hr ho (ka:Int) (kb:Int) (kc:Int) (n:Int) (by omega) ka h1 (x.regs.getD kb 0))
 obtain⟨R,hR⟩:∃R,storeP x v (x.regs.getD ka 0) (x.regs.getD kb 0) (kc:Int)=R:=⟨_,rfl⟩;rw[hR] at HT ⊢;clear hR ho;generalize x.regs.getD ka 0=RA at *
 generalize x.regs.getD kb 0=RB at *
 generalize x.regs.getD m 0=RC at *
 clear h hC hr;go_enter Tryz.func183,Tryz.ntmps183;go_wp2;go_quiet (fail);go_wp2_with (go_at_call 214;refine(HT.o _ _).mono ?_;rintro e w1 ⟨rfl,hs⟩;have HZ:=h_ hs;clear hs);go_ret;exact⟨rfl,HZ.o⟩
theorem ip_do14 (b vb:Nat)(x:PIt)(v:PVw)(h:Sat ω w (itH b vb x v*F))(hr:x.regs.length=8)(ho:v.ok)(hn:x.opens.length≤100)(hl:x.out.length≤100)(ka kb kc n:Nat)(h1:ka<8)(h2:kb<8)(h3:kc≤40):
  Calls Tryz.prog 183 #[.pointer (some ⟨b,0,none⟩),.agg #[.int .i64 14,.int .i64 ka,.int .i64 kb,.int .i64 kc,.int .u64 n]] w (Rets ω F (.int .i64 (((x.begin v 14 x.at_).1:Int))) (itH b vb ((x.begin v 14 x.at_).2.1) ((x.begin v 14 x.at_).2.2))):=by
 obtain⟨m,hm⟩:∃m,kc%8=m:=⟨_,rfl⟩;have hC:∀o,IpC (w.alloc o) b x ka kb m:=fun o=>ipC_of (h.junk o) hr h1 h2 (by omega)
 have ca:=fun o=>(hC o).ca
 have cb:=fun o=>(hC o).cb
 have cc:=fun o=>(hC o).cc
 have fz:=fun o=>(hC o).fz
 have lb1:b<w.heap.size+1:=by have:=(hC (.cells #[] 0)).lt;simpa using this
 have HX:Hid (∀o q,Sat ω ((w.alloc o).drewN q) (itH b vb x v*F)):=h_ (fun o q=>(h.junk o).drewN q)
 have ta:Int.tmod (ka:Int) 8=(ka:Int):=by rw[Int.tmod_eq_emod_of_nonneg (by omega)];omega
 have tb:Int.tmod (kb:Int) 8=(kb:Int):=by rw[Int.tmod_eq_emod_of_nonneg (by omega)];omega
 have tc:Int.tmod (kc:Int) 8=(m:Int):=by rw[Int.tmod_eq_emod_of_nonneg (by omega)];omega
 have ga:(ka:Int)<8:=by omega
 have gb:(kb:Int)<8:=by omega
 have gm:(m:Int)<8:=by omega
 have HT:Hid (∀o q,Calls Tryz.prog 215 #[.pointer (some ⟨b,0,none⟩),.agg #[.int .i64 14,.int .i64 ka,.int .i64 kb,.int .i64 kc,.int .u64 n]] ((w.alloc o).drewN q) (Rets ω F (.int .i64 ((x.begin v 14 x.at_).1:Int)) (itH b vb (x.begin v 14 x.at_).2.1 (x.begin v 14 x.at_).2.2))):=h_ (fun o q=>ip_turn14 ω _ F b vb x v ((h.junk o).drewN q) hr ho hn hl (ka:Int) (kb:Int) (kc:Int) (n:Int))
 obtain⟨R,hR⟩:∃R,x.begin v 14 x.at_=R:=⟨_,rfl⟩;rw[hR] at HT ⊢;clear hR ho hn hl;generalize x.regs.getD ka 0=RA at *
 generalize x.regs.getD kb 0=RB at *
 generalize x.regs.getD m 0=RC at *
 clear h hC hr;go_enter Tryz.func183,Tryz.ntmps183;go_wp2;go_quiet (fail);go_wp2_with (go_at_call 215;refine(HT.o _ _).mono ?_;rintro e w1 ⟨rfl,hs⟩;have HZ:=h_ hs;clear hs);go_ret;exact⟨rfl,HZ.o⟩
theorem ip_do15 (b vb:Nat)(x:PIt)(v:PVw)(h:Sat ω w (itH b vb x v*F))(hr:x.regs.length=8)(ho:v.ok)(hn:x.opens.length≤100)(h0:x.opens≠[])(hall:∀p∈x.opens,p.regs.length=8)(ka kb kc n:Nat)(h1:ka<8)(h2:kb<8)(h3:kc≤40):
  Calls Tryz.prog 183 #[.pointer (some ⟨b,0,none⟩),.agg #[.int .i64 15,.int .i64 ka,.int .i64 kb,.int .i64 kc,.int .u64 n]] w (Rets ω F (.int .i64 ((((v.keep.1,x.leave.2,v.keep.2)).1:Int))) (itH b vb (((v.keep.1,x.leave.2,v.keep.2)).2.1) (((v.keep.1,x.leave.2,v.keep.2)).2.2))):=by
 obtain⟨m,hm⟩:∃m,kc%8=m:=⟨_,rfl⟩;have hC:∀o,IpC (w.alloc o) b x ka kb m:=fun o=>ipC_of (h.junk o) hr h1 h2 (by omega)
 have ca:=fun o=>(hC o).ca
 have cb:=fun o=>(hC o).cb
 have cc:=fun o=>(hC o).cc
 have fz:=fun o=>(hC o).fz
 have lb1:b<w.heap.size+1:=by have:=(hC (.cells #[] 0)).lt;simpa using this
 have HX:Hid (∀o q,Sat ω ((w.alloc o).drewN q) (itH b vb x v*F)):=h_ (fun o q=>(h.junk o).drewN q)
 have ta:Int.tmod (ka:Int) 8=(ka:Int):=by rw[Int.tmod_eq_emod_of_nonneg (by omega)];omega
 have tb:Int.tmod (kb:Int) 8=(kb:Int):=by rw[Int.tmod_eq_emod_of_nonneg (by omega)];omega
 have tc:Int.tmod (kc:Int) 8=(m:Int):=by rw[Int.tmod_eq_emod_of_nonneg (by omega)];omega
 have ga:(ka:Int)<8:=by omega
 have gb:(kb:Int)<8:=by omega
 have gm:(m:Int)<8:=by omega
 have HT:Hid (∀o q,Calls Tryz.prog 215 #[.pointer (some ⟨b,0,none⟩),.agg #[.int .i64 15,.int .i64 ka,.int .i64 kb,.int .i64 kc,.int .u64 n]] ((w.alloc o).drewN q) (Rets ω F (.int .i64 (((v.keep.1,x.leave.2,v.keep.2)).1:Int)) (itH b vb ((v.keep.1,x.leave.2,v.keep.2)).2.1 ((v.keep.1,x.leave.2,v.keep.2)).2.2))):=h_ (fun o q=>ip_turn15 ω _ F b vb x v ((h.junk o).drewN q) hr ho hn h0 hall (ka:Int) (kb:Int) (kc:Int) (n:Int))
 obtain⟨R,hR⟩:∃R,(v.keep.1,x.leave.2,v.keep.2)=R:=⟨_,rfl⟩;rw[hR] at HT ⊢;clear hR ho hn h0 hall;generalize x.regs.getD ka 0=RA at *
 generalize x.regs.getD kb 0=RB at *
 generalize x.regs.getD m 0=RC at *
 clear h hC hr;go_enter Tryz.func183,Tryz.ntmps183;go_wp2;go_quiet (fail);go_wp2_with (go_at_call 215;refine(HT.o _ _).mono ?_;rintro e w1 ⟨rfl,hs⟩;have HZ:=h_ hs;clear hs);go_ret;exact⟨rfl,HZ.o⟩
end
theorem ip_do (ω w:World)(F:HP)(b vb:Nat)(x:PIt)(v:PVw)(h:Sat ω w (itH b vb x v*F))(hx:ItVal x)(hv:v.fine)(dep:Nat→Nat)(hl:x.opens.length+1=v.logs.rows.length)(hd:x.opens.length=dep x.at_)(i:PIns)(hi:InsFine dep x.at_ i):
  Calls Tryz.prog 183 #[.pointer (some ⟨b,0,none⟩),.agg (insV i).toArray] w (Rets ω F (.int .i64 ((x.exec v i).1:Int)) (itH b vb (x.exec v i).2.1 (x.exec v i).2.2)):=by
 have hop:=hi.op;have h6:=hv.logs.few;have ho6:x.opens.length≤100:=by omega
 have hout:=hx.out;obtain⟨a1,a2⟩:=hi.a;obtain⟨b1,b2⟩:=hi.b;obtain⟨c1,c2⟩:=hi.c;obtain⟨n1,n2⟩:=hi.n;obtain⟨op,a,b',c,n⟩:=i;simp only at *
 obtain⟨ka,rfl⟩:=Int.eq_ofNat_of_zero_le a1;obtain⟨kb,rfl⟩:=Int.eq_ofNat_of_zero_le b1;obtain⟨kc,rfl⟩:=Int.eq_ofNat_of_zero_le c1;obtain⟨kn,rfl⟩:=Int.eq_ofNat_of_zero_le n1;have ha:ka<8:=by omega
 have hb:kb<8:=by omega
 have hc:kc≤40:=by omega
 have ra:x.reg (ka:Int)=x.regs.getD ka 0:=by unfold PIt.reg;rw[Int.toNat_natCast,Nat.mod_eq_of_lt ha]
 have rb:x.reg (kb:Int)=x.regs.getD kb 0:=by unfold PIt.reg;rw[Int.toNat_natCast,Nat.mod_eq_of_lt hb]
 have rc:x.reg (kc:Int)=x.regs.getD (kc%8) 0:=by unfold PIt.reg;rw[Int.toNat_natCast]
 have sa:∀r,x.setReg (ka:Int) r={ x with regs:=x.regs.set ka r }:=fun r=>by unfold PIt.setReg;rw[Int.toNat_natCast,Nat.mod_eq_of_lt ha]
 rcases hop with⟨rfl|rfl|rfl|rfl|rfl,_⟩|⟨rfl,_⟩|⟨rfl,hdd⟩
 ·have e:x.exec v ⟨1,(ka:Nat),(kb:Nat),(kc:Nat),(kn:Nat)⟩=(0,{ x with regs:=x.regs.set ka kn },v):=by
   rw[←sa];rfl
  rw[e];exact ip_do1 ω w F b vb x v h hx.regs ka kb kc kn ha hb hc
 ·have e:x.exec v ⟨3,(ka:Nat),(kb:Nat),(kc:Nat),(kn:Nat)⟩=(0,{ x with regs:=x.regs.set ka ((x.regs.getD kb 0+x.regs.getD (kc%8) 0)%18446744073709551616) },v):=by
   rw[←sa,←rb,←rc];rfl
  rw[e];exact ip_do3 ω w F b vb x v h hx.regs ka kb kc kn ha hb hc
 ·have e:x.exec v ⟨8,(ka:Nat),(kb:Nat),(kc:Nat),(kn:Nat)⟩=loadP x v ka (x.regs.getD kb 0) (kc:Int):=by
   unfold loadP;rw[←rb];simp only[←sa];rfl
  rw[e];exact ip_do8 ω w F b vb x v h hx.regs hv.ok ka kb kc kn ha hb hc
 ·have e:x.exec v ⟨9,(ka:Nat),(kb:Nat),(kc:Nat),(kn:Nat)⟩=storeP x v (x.regs.getD ka 0) (x.regs.getD kb 0) (kc:Int):=by
   unfold storeP;rw[←ra,←rb];rfl
  rw[e];exact ip_do9 ω w F b vb x v h hx.regs hv.ok ka kb kc kn ha hb hc
 ·have e:x.exec v ⟨21,(ka:Nat),(kb:Nat),(kc:Nat),(kn:Nat)⟩=((if 16≤x.out.length then 5 else 0),{ x with out:=if x.out.length<16 then x.out++[.num (x.regs.getD ka 0)] else x.out },v):=by
   rw[←ra];show(if 16≤x.out.length then(5,x,v) else(0,{ x with out:=x.out++[.num (x.reg (ka:Int))] },v))=_
   by_cases h9:16≤x.out.length
   ·rw[if_pos h9,if_pos h9,if_neg (by omega)]
   ·rw[if_neg h9,if_neg h9,if_pos (by omega)]
  rw[e];exact ip_do21 ω w F b vb x v h hx.regs hx.out ka kb kc kn ha hb hc
 ·exact ip_do14 ω w F b vb x v h hx.regs hv.ok ho6 (by omega) ka kb kc kn ha hb hc
 ·exact ip_do15 ω w F b vb x v h hx.regs hv.ok ho6 (by intro e;rw[e] at hd;simp at hd;omega) (fun p hp=>(hx.opens p hp).1) ka kb kc kn ha hb hc
theorem itC_fin (x:PIt)(D:ItD)(h:x.regs.length=8)(f e:Nat):((itC x D).setIfInBounds 5 (.int .i64 f)).setIfInBounds 4 (.int .i64 e)=itC { x with fin:=f,err:=e } D:=by
 obtain⟨code,fin,err,regs,out,at_,next,left,opens⟩:=x;simp only at h;obtain⟨r0,r1,r2,r3,r4,r5,r6,r7,rfl⟩:=regs8 h;rfl
theorem itC_finOnly (x:PIt)(D:ItD)(h:x.regs.length=8)(f:Nat):(itC x D).setIfInBounds 5 (.int .i64 f)=itC { x with fin:=f } D:=by
 obtain⟨code,fin,err,regs,out,at_,next,left,opens⟩:=x;simp only at h;obtain⟨r0,r1,r2,r3,r4,r5,r6,r7,rfl⟩:=regs8 h;rfl
theorem itC_next (x:PIt)(D:ItD)(h:x.regs.length=8)(f:Nat):(itC x D).setIfInBounds 16 (.int .i64 f)=itC { x with next:=f } D:=by
 obtain⟨code,fin,err,regs,out,at_,next,left,opens⟩:=x;simp only at h;obtain⟨r0,r1,r2,r3,r4,r5,r6,r7,rfl⟩:=regs8 h;rfl
theorem itC_on (x:PIt)(D:ItD)(h:x.regs.length=8)(f l:Nat):((itC x D).setIfInBounds 15 (.int .i64 f)).setIfInBounds 17 (.int .i64 l)=itC { x with at_:=f,left:=l } D:=by
 obtain⟨code,fin,err,regs,out,at_,next,left,opens⟩:=x;simp only at h;obtain⟨r0,r1,r2,r3,r4,r5,r6,r7,rfl⟩:=regs8 h;rfl
theorem itH_put1 {ω w:World}{F:HP}{b vb:Nat}{x y:PIt}{v:PVw}(h:Sat ω w (itH b vb x v*F))(i:Nat)(u:Value)(e:∀D,(itC x D).setIfInBounds i u=itC y D)(hc:y.code=x.code)(ho:y.opens=x.opens)(hu:y.out=x.out):Sat ω (w.setCell ⟨b,i,none⟩ u) (itH b vb y v*F):=by
 obtain⟨D,hD,hx⟩:=itH_of h;unfold itX at hx;have h2:=hx.assoc.put i u (e D);refine itH_to (D:=D) hD ?_;unfold itX;rw[hc,ho,hu];exact h2.assoc'
theorem itH_put2 {ω w:World}{F:HP}{b vb:Nat}{x y:PIt}{v:PVw}(h:Sat ω w (itH b vb x v*F))(i j:Nat)(u u':Value)(e:∀D,((itC x D).setIfInBounds i u).setIfInBounds j u'=itC y D)(hc:y.code=x.code)(ho:y.opens=x.opens)(hu:y.out=x.out):Sat ω ((w.setCell ⟨b,i,none⟩ u).setCell ⟨b,j,none⟩ u') (itH b vb y v*F):=by
 obtain⟨D,hD,hx⟩:=itH_of h;unfold itX at hx;have h2:=(hx.assoc.set i u).put j u' (e D);refine itH_to (D:=D) hD ?_;unfold itX;rw[hc,ho,hu];exact h2.assoc'
theorem ip_fail (ω w:World)(F:HP)(b vb:Nat)(x:PIt)(v:PVw)(h:Sat ω w (itH b vb x v*F))(hr:x.regs.length=8)(e:Nat):
  Calls Tryz.prog 182 #[.pointer (some ⟨b,0,none⟩),.int .i64 e] w (Rets ω F (.tuple #[]) (itH b vb { x with fin:=4,err:=e } v)):=by
 obtain⟨D,hD,hx⟩:=itH_of h;have hb:=hx.assoc.blk;have lt:=hb.lt;have fz:=hb.frozen;have c5:w.cell? ⟨b,5,none⟩=some (.int .i64 x.fin):=by rw[hb.cell,itC_pre x D 5 (by omega)];rfl
 have c4:w.cell? ⟨b,4,none⟩=some (.int .i64 x.err):=by rw[hb.cell,itC_pre x D 4 (by omega)];rfl
 have HS:Hid (Sat ω ((w.setCell ⟨b,5,none⟩ (.int .i64 ((4:Nat):Int))).setCell ⟨b,4,none⟩ (.int .i64 e)) (itH b vb { x with fin:=4,err:=e } v*F)):=h_ (itH_put2 h 5 4 _ _ (fun D=>itC_fin x D hr 4 e) rfl rfl rfl)
 generalize (x.fin:Int)=fi at *
 generalize (x.err:Int)=er at *
 clear h hx hb;go_enter Tryz.func182,Tryz.ntmps182;go_wp2;exact bodyPost_end (results_none rfl _ _ _) rfl ⟨rfl,HS.o⟩
structure IrC (w:World) (b:Nat) (x:PIt):Prop where
 p:∃A c,w.cell? ⟨b,0,none⟩=some (.slice A x.code.length c)
 bad:w.cell? ⟨b,3,none⟩=some (.int .i64 0)
 fin:w.cell? ⟨b,5,none⟩=some (.int .i64 x.fin)
 at_:w.cell? ⟨b,15,none⟩=some (.int .i64 x.at_)
 next:w.cell? ⟨b,16,none⟩=some (.int .i64 x.next)
 left:w.cell? ⟨b,17,none⟩=some (.int .i64 x.left)
 fz:∀i,w.frozen? ⟨b,i,none⟩=false
 lt:b<w.heap.size
theorem irC_of {ω w:World}{F:HP}{b vb:Nat}{x:PIt}{v:PVw}(h:Sat ω w (itH b vb x v*F))(hr:x.regs.length=8):IrC w b x:=by
 obtain⟨D,hD,hx⟩:=itH_of h;have hb:=hx.assoc.blk;refine⟨⟨D.pA,D.pc,by rw[hb.cell,itC_pre x D 0 (by omega)];rfl⟩,by rw[hb.cell,itC_pre x D 3 (by omega)];rfl,by rw[hb.cell,itC_pre x D 5 (by omega)];rfl,?_,?_,?_,hb.frozen,hb.lt⟩
 ·rw[hb.cell,show(15:Nat)=14+1 from rfl,itC_post x D 1 hr (by omega)];rfl
 ·rw[hb.cell,show(16:Nat)=14+2 from rfl,itC_post x D 2 hr (by omega)];rfl
 ·rw[hb.cell,show(17:Nat)=14+3 from rfl,itC_post x D 3 hr (by omega)];rfl
theorem insV_len (i:PIns):(insV i).length=5:=rfl
theorem ir_ins {ω w:World}{F:HP}{b vb:Nat}{x:PIt}{v:PVw}(h:Sat ω w (itH b vb x v*F))(hk:x.at_<x.code.length):∃g c,w.cell? ⟨b,0,none⟩=some (.slice (some ⟨g,0,none⟩) x.code.length c)∧g<w.heap.size∧∀j,j<5→w.cell? ⟨g,x.at_*5+j,none⟩=(insV (x.code.getD x.at_ PIns.none))[j]?:=by
 obtain⟨D,hD,hx⟩:=itH_of h;unfold itX at hx;have h1:=hx.assoc;obtain⟨g,e,lg,hc⟩:=h1.right.assoc.rowAt (l:=x.code) (f:=insV) insV_len PIns.none (i:=x.at_) hk;refine⟨g,D.pc,?_,lg,hc⟩;rw[←e]
 have:=h1.blk.cell 0
 rw[itC_pre x D 0 (by omega)] at this
 exact this
theorem itX_ne {ω w:World}{F:HP}{b g:Nat}{x:PIt}{D:ItD}(h:Sat ω w (itX b x D*F))(e:D.pA=some ⟨g,0,none⟩):g≠b:=by
 have h1:Sat ω w (row 87 5 (.slice D.pA x.code.length D.pc) x.code.length (x.code.flatMap insV)*(bk b 245 (itC x D)*(row 3 1 (.slice D.mA (matchP x.code).length D.mc) (matchP x.code).length ((matchP x.code).map (Value.int .i64))*(row 346 11 (.slice D.oA x.opens.length D.oc) x.opens.length (x.opens.flatMap ptV)*(slH D.sb x.out*F))))):=h.perm (by unfold itX;ac_rfl)
 rcases h1.cases with⟨h5,_⟩|⟨g2,_,_,h5,_,_,_,_,_,h4⟩
 ·rw[e] at h5;cases h5
 ·rw[e] at h5;injection h5 with h5
  injection h5 with h5
  injection h5 with h5
  subst h5;exact h4.ne
def irLeft (b:Nat)(w:World):Nat:=match w.cell? ⟨b,5,none⟩,w.cell? ⟨b,17,none⟩ with
 |some (.int _ 0),some (.int _ n)=>n.toNat+1
 |_,_=>0
theorem irLeft_of {ω w:World}{F:HP}{b vb:Nat}{x:PIt}{v:PVw}(h:Sat ω w (itH b vb x v*F))(hr:x.regs.length=8):irLeft b w=if x.fin=0 then x.left+1 else 0:=by
 have hC:=irC_of h hr;unfold irLeft;rw[hC.fin,hC.left];by_cases h0:x.fin=0
 ·rw[if_pos h0,h0];simp
 ·rw[if_neg h0];obtain⟨n,hn⟩:∃n,x.fin=n+1:=⟨x.fin-1,by omega⟩
  rw[hn];rfl
structure IrInv (ω:World) (F:HP) (b vb:Nat) (dep:Nat→Nat) (R:Nat×PIt×PVw) (w:World) (x:PIt) (v:PVw):Prop where
 sat:Sat ω w (itH b vb x v*F)
 it:ItFine dep x v
 fin:x.fin=0∨x.fin=2∨x.fin=4
 run:PIt.runF (x.left+1) x v=R
theorem ir_round {dep:Nat→Nat}{x:PIt}{v:PVw}(h:ItFine dep x v)(h0:x.fin=0)(h1:x.at_≠x.code.length)(h2:x.left≠0):
  ItVal { x with next:=x.at_+1 }∧x.at_<x.code.length∧InsFine dep x.at_ (x.code.getD x.at_ PIns.none)∧x.opens.length+1=v.logs.rows.length∧x.opens.length=dep x.at_ ∧
  ∀e y v',({ x with next:=x.at_+1 }:PIt).exec v (x.code.getD x.at_ PIns.none)=(e,y,v') →
   y.regs.length=8∧y.fin=0∧y.left=x.left ∧
   (e=0→ItFine dep { y with at_:=y.next,left:=y.left-1 } v'∧PIt.runF (x.left+1) x v=PIt.runF (x.left-1+1) { y with at_:=y.next,left:=y.left-1 } v') ∧
   (e=11→PIt.runF (x.left+1) x v=(1,y,v')) ∧
   (e≠0→e≠11→ItFine dep { y with fin:=4,err:=e } v'∧PIt.runF (x.left+1) x v=(4,{ y with fin:=4,err:=e },v')):=by
 have hk:x.at_<x.code.length:=by have:=h.place;omega
 have hl:=h.live h0;have hlen:=h.code.len;have hv:ItVal { x with next:=x.at_+1 }:=⟨h.regs,h.lim,h.opens,h.out,h.oks⟩
 have hi:=h.code.ins x.at_ hk;refine⟨hv,hk,hi,hl.1,hl.2,fun e y v' he=>?_⟩
 have hx:=ex_fine (x:={ x with next:=x.at_+1 }) (v:=v) (dep:=dep) hv h.vf hl.1 hl.2 (by simp only;omega) hi
 rw[he] at hx;simp only at hx;have hleft:y.left=x.left:=hx.left;have hfin:y.fin=0:=by rw[hx.fin];exact h0
 have hcode:CodeFine dep y.code:=by rw[hx.code];exact h.code
 have hll:=h.left;have hunf:PIt.runF (x.left+1) x v=if e=0 then PIt.runF x.left { y with at_:=y.next,left:=y.left-1 } v' else if e=11 then(1,y,v') else(4,{ y with fin:=4,err:=e },v'):=by
  conv=>lhs;unfold PIt.runF
  rw[if_neg (by simp[h0]),if_neg h1,if_neg h2,he]
 refine⟨hx.regs,hfin,hleft,fun e0=>⟨⟨⟨hx.regs,hx.lim,hx.opens,hx.out,hx.oks⟩,hcode,hx.vf,?_,?_,fun _=>⟨(hx.ok e0).1,?_⟩⟩,?_⟩,fun e11=>?_,fun n0 n11=>⟨⟨⟨hx.regs,hx.lim,hx.opens,hx.out,hx.oks⟩,hcode,hx.vf,?_,?_,by simp⟩,?_⟩⟩
 ·simp only[hx.next,hx.code];exact hk
 ·simp only[hleft];omega
 ·simp only[hx.next];exact(hx.ok e0).2
 ·rw[hunf,if_pos e0]
  congr 1
  omega
 ·rw[hunf,if_neg (by omega),if_pos e11]
 ·simp only[hx.place,hx.code];exact h.place
 ·simp only[hleft];exact hll
 ·rw[hunf,if_neg n0,if_neg n11]
theorem ip_run (ω w:World)(F:HP)(b vb:Nat)(x:PIt)(v:PVw)(h:Sat ω w (itH b vb x v*F))(dep:Nat→Nat)(hf:ItFine dep x v)(hfin:x.fin=0∨x.fin=2∨x.fin=4):
  Calls Tryz.prog 155 #[.pointer (some ⟨b,0,none⟩)] w (Rets ω F (.int .i64 ((x.run v).1:Int)) (itH b vb (x.run v).2.1 (x.run v).2.2)):=by
 obtain⟨R,hR⟩:∃R,x.run v=R:=⟨_,rfl⟩;rw[hR];have H0:Hid (IrInv ω F b vb dep R w x v):=h_ ⟨h,hf,hfin,hR⟩;clear h hf hfin hR;go_enter Tryz.func155,Tryz.ntmps155;go_wp2;go_loopw [2] (fun s wr=>s=.int .i64 0∧∃x' v',Hid (IrInv ω F b vb dep R wr x' v')) (fun _ wr=>irLeft b wr)
 case atStart=>exact⟨rfl,x,v,H0⟩
 case round =>
  obtain⟨rfl,x',v',HI⟩:=hrel;have hI:=HI.o;have hrg:=hI.it.regs;have hrun:=hI.run;have hC:=irC_of hI.sat hrg;obtain⟨⟨A,cA,q0⟩,q3,q5,q15,q16,q17,qf,ql⟩:=hC;have hME:irLeft b wr=if x'.fin=0 then x'.left+1 else 0:=irLeft_of hI.sat hrg
  by_cases h0:x'.fin=0
  ·rw[if_pos h0] at hME;by_cases h1:x'.at_=x'.code.length
   ·have hR:R=(2,{ x' with fin:=2 },v'):=by
     rw[←hrun];unfold PIt.runF;rw[if_neg (by simp[h0]),if_pos h1]
    have HS:Hid (∀q,Sat ω ((wr.drewN q).setCell ⟨b,5,none⟩ (.int .i64 2)) (itH b vb { x' with fin:=2 } v'*F)):=h_ (fun q=>itH_put1 (hI.sat.drewN q) 5 _ (fun D=>itC_finOnly x' D hrg 2) rfl rfl rfl)
    have HN:Hid (∀w2,Sat ω w2 (itH b vb { x' with fin:=2 } v'*F)→IrInv ω F b vb dep R w2 { x' with fin:=2 } v'∧irLeft b w2<irLeft b wr):=h_ (fun w2 h2=>by
     refine⟨⟨h2,⟨⟨hI.it.regs,hI.it.lim,hI.it.opens,hI.it.out,hI.it.oks⟩,hI.it.code,hI.it.vf,hI.it.place,hI.it.left,by simp⟩,.inr (.inl rfl),?_⟩,?_⟩
     ·rw[hR];unfold PIt.runF;rw[if_pos (by simp)]
     ·rw[hME,irLeft_of h2 hrg,if_neg (by simp)];omega)
    rw[h0] at q5;have hle:(x'.code.length:Int)≤1000:=by have:=hI.it.code.len;omega
    rw[h1] at q15;generalize x'.code.length=NN at *
    clear hI hrun hME hR h1 h0 HI;go_wp2;go_quiet (fail);go_wp2;go_roundw
    case rel =>
     refine⟨rfl,_,_,h_ (HN.o _ (HS.o _)).1⟩
    case measure =>
     exact(HN.o _ (HS.o _)).2
   ·have dL:((x'.at_:Int)==(x'.code.length:Int))=false:=by simp;omega
    have hle:(x'.code.length:Int)≤1000:=by have:=hI.it.code.len;omega
    have hle2:(x'.at_:Int)≤1000:=by have:=hI.it.code.len;have:=hI.it.place;omega
    by_cases h2:x'.left=0
    ·have hR:R=(4,{ x' with fin:=4,err:=6 },v'):=by
      rw[←hrun];unfold PIt.runF;rw[if_neg (by simp[h0]),if_neg h1,if_pos h2]
     have HFA:Hid (∀q,Calls Tryz.prog 182 #[.pointer (some ⟨b,0,none⟩),.int .i64 6] (wr.drewN q) (Rets ω F (.tuple #[]) (itH b vb { x' with fin:=4,err:=6 } v'))):=h_ (fun q=>ip_fail ω _ F b vb x' v' (hI.sat.drewN q) hrg 6)
     have HN:Hid (∀w2,Sat ω w2 (itH b vb { x' with fin:=4,err:=6 } v'*F)→IrInv ω F b vb dep R w2 { x' with fin:=4,err:=6 } v'∧irLeft b w2<irLeft b wr):=h_ (fun w2 h2=>by
      refine⟨⟨h2,⟨⟨hI.it.regs,hI.it.lim,hI.it.opens,hI.it.out,hI.it.oks⟩,hI.it.code,hI.it.vf,hI.it.place,hI.it.left,by simp⟩,.inr (.inr rfl),?_⟩,?_⟩
      ·rw[hR];unfold PIt.runF;rw[if_pos (by simp)]
      ·rw[hME,irLeft_of h2 hrg,if_neg (by simp)];omega)
     rw[h0] at q5;rw[h2] at q17;generalize x'.code.length=NN at *
     generalize x'.at_=PP at *
     clear hI hrun hME hR h1 h0 h2 HI;go_wp2;go_quiet (fail);go_wp2_with (go_at_call 182;refine(HFA.o _).mono ?_;rintro e w1 ⟨rfl,hs⟩;have HZ:=h_ (HN.o _ hs);clear hs);go_roundw
     case rel=>exact⟨rfl,_,_,h_ HZ.o.1⟩
     case measure=>exact HZ.o.2
    ·obtain⟨hv1,hk,hi,hop,hdp,hround⟩:=ir_round hI.it h0 h1 h2;obtain⟨g,cg,e0,lg,hcell⟩:=ir_ins hI.sat hk;rw[q0] at e0;obtain rfl:A=some ⟨g,0,none⟩:=by injection (Option.some.inj e0)
     clear e0;have HS:Hid (∀q,Sat ω ((wr.drewN q).setCell ⟨b,16,none⟩ (.int .i64 ((x'.at_+1:Nat):Int))) (itH b vb { x' with next:=x'.at_+1 } v'*F)):=h_ (fun q=>itH_put1 (hI.sat.drewN q) 16 _ (fun D=>itC_next x' D hrg (x'.at_+1)) rfl rfl rfl)
     obtain⟨ins,hins⟩:∃ins,x'.code.getD x'.at_ PIns.none=ins:=⟨_,rfl⟩;rw[hins] at hi hcell hround;obtain⟨⟨ee,y,v2⟩,hex⟩:∃r,({ x' with next:=x'.at_+1 }:PIt).exec v' ins=r:=⟨_,rfl⟩
     obtain⟨yr,yf,yl,k0,k11,kn⟩:=hround ee y v2 hex;have HD:Hid (∀q,Calls Tryz.prog 183 #[.pointer (some ⟨b,0,none⟩),.agg (insV ins).toArray] ((wr.drewN q).setCell ⟨b,16,none⟩ (.int .i64 ((x'.at_+1:Nat):Int))).drew (Rets ω F (.int .i64 ee) (itH b vb y v2))):=h_ (fun q=>by
      have h9:=ip_do ω _ F b vb { x' with next:=x'.at_+1 } v' (HS.o q).drew hv1 hI.it.vf dep hop hdp ins hi
      rw[hex] at h9;exact h9)
     have HC:Hid (∀w2,Sat ω w2 (itH b vb y v2*F)→IrC w2 b y):=h_ (fun w2 h=>irC_of h yr)
     have hgb:g≠b:=by
      obtain⟨D9,_,hx9⟩:=itH_of hI.sat;have h7:=hx9.assoc.blk.cell 0;rw[q0,itC_pre x' D9 0 (by omega)] at h7
      have h6:D9.pA=some ⟨g,0,none⟩:=by
       injection (Option.some.inj h7) with h5
       exact h5.symm
      exact itX_ne hx9 h6
     have hbg:b≠g:=Ne.symm hgb;have m0:=hcell 0 (by omega)
     have m1:=hcell 1 (by omega)
     have m2:=hcell 2 (by omega)
     have m3:=hcell 3 (by omega)
     have m4:=hcell 4 (by omega)
     obtain⟨io,ia,ib,ic,iN⟩:=ins;simp only[insV,List.getElem?_cons_zero,List.getElem?_cons_succ,Nat.add_zero] at m0 m1 m2 m3 m4;simp only[insV] at HD;have dZ:((x'.left:Int)==0)=false:=by simp;omega
     have hkI:(x'.at_:Int)<(x'.code.length:Int):=by omega
     have hw1:((x'.at_+1:Nat):Int)=(x'.at_:Int)+1:=by omega
     rw[hw1] at HD HS;have hll:(x'.left:Int)≤1000:=by have:=hI.it.left;omega
     rw[h0] at q5;clear hcell hins hex hv1 hop hdp hi hround HI HS hgb;by_cases e0:ee=0
     ·obtain⟨f1,f2⟩:=k0 e0;rw[hrun] at f2;have HN:Hid (∀w2,Sat ω w2 (itH b vb { y with at_:=y.next,left:=y.left-1 } v2*F)→IrInv ω F b vb dep R w2 { y with at_:=y.next,left:=y.left-1 } v2∧irLeft b w2<irLeft b wr):=h_ (fun w2 h2=>by
       refine⟨⟨h2,f1,.inl yf,?_⟩,?_⟩
       ·rw[f2,yl]
       ·rw[hME,irLeft_of h2 yr];rw[if_pos (show y.fin=0 from yf)]
        simp only[yl];omega)
      have HS2:Hid (∀w2,Sat ω w2 (itH b vb y v2*F)→Sat ω ((w2.setCell ⟨b,15,none⟩ (.int .i64 y.next)).setCell ⟨b,17,none⟩ (.int .i64 ((y.left-1:Nat):Int))) (itH b vb { y with at_:=y.next,left:=y.left-1 } v2*F)):=h_ (fun w2 h2=>itH_put2 h2 15 17 _ _ (fun D=>itC_on y D yr y.next (y.left-1)) rfl rfl rfl)
      have hsub:((y.left-1:Nat):Int)=(y.left:Int)-1:=by omega
      have hyl:(y.left:Int)≤1000:=by omega
      have hyl0:0≤(y.left:Int):=by omega
      rw[hsub] at HS2;rw[e0] at HD;generalize ({ y with at_:=y.next,left:=y.left-1 }:PIt)=z at *
      generalize x'.code.length=NN at *
      generalize x'.at_=PP at *
      generalize x'.left=LL at *
      generalize x'.next=NX at *
      clear hI hrun hME h1 h0 h2 k0 k11 kn e0 yr yf yl H0 f1 f2;go_wp2;go_quiet (fail);go_wp2;refine rT 12 ?_;simp only[sD,sE,sF,sG];repeat still_step
      refine wpStill_nil ?_;go_wp2_with (go_at_call 183;refine(HD.o _).mono ?_;rintro e w1 ⟨rfl,hs⟩;obtain⟨⟨A5,c5,n0⟩,n3,n5,n15,n16,n17,nf,nl⟩:=HC.o _ hs;have HY:=h_ hs;clear hs);go_roundw
      case rel=>exact⟨rfl,_,_,h_ (HN.o _ (HS2.o _ HY.o)).1⟩
      case measure=>exact(HN.o _ (HS2.o _ HY.o)).2
     ·by_cases e11:ee=11
      ·have hR:R=(1,y,v2):=hrun.symm.trans (k11 e11);rw[hR];rw[e11] at HD;generalize x'.code.length=NN at *
       generalize x'.at_=PP at *
       generalize x'.left=LL at *
       generalize x'.next=NX at *
       clear hI hrun hME hR h1 h0 h2 k0 k11 kn e0 e11 yr yf yl HC H0;go_wp2;go_quiet (fail);go_wp2;refine rT 12 ?_;simp only[sD,sE,sF,sG];repeat still_step
       refine wpStill_nil ?_;go_wp2_with (go_at_call 183;refine(HD.o _).mono ?_;rintro e w1 ⟨rfl,hs⟩;have HY:=h_ hs;clear hs);go_ret;exact⟨rfl,HY.o⟩
      ·obtain⟨f1,f2⟩:=kn e0 e11;rw[hrun] at f2;have HN:Hid (∀w2,Sat ω w2 (itH b vb { y with fin:=4,err:=ee } v2*F)→IrInv ω F b vb dep R w2 { y with fin:=4,err:=ee } v2∧irLeft b w2<irLeft b wr):=h_ (fun w2 h2=>by
        refine⟨⟨h2,f1,.inr (.inr rfl),?_⟩,?_⟩
        ·rw[f2];unfold PIt.runF;rw[if_pos (by simp)]
        ·rw[hME,irLeft_of h2 yr,if_neg (by simp)];omega)
       have HFA:Hid (∀w2,Sat ω w2 (itH b vb y v2*F)→Calls Tryz.prog 182 #[.pointer (some ⟨b,0,none⟩),.int .i64 ee] w2 (Rets ω F (.tuple #[]) (itH b vb { y with fin:=4,err:=ee } v2))):=h_ (fun w2 h2=>ip_fail ω _ F b vb y v2 h2 yr ee)
       have d0:((ee:Int)==0)=false:=by simp;omega
       have d11:((ee:Int)==11)=false:=by simp;omega
       generalize ({ y with fin:=4,err:=ee }:PIt)=z at *
       generalize x'.code.length=NN at *
       generalize x'.at_=PP at *
       generalize x'.left=LL at *
       generalize x'.next=NX at *
       clear hI hrun hME h1 h0 h2 k0 k11 kn e0 e11 yr yf yl HC H0 f1 f2;go_wp2;go_quiet (fail);go_wp2;refine rT 12 ?_;simp only[sD,sE,sF,sG];repeat still_step
       refine wpStill_nil ?_;go_wp2_with (first
        |(go_at_call 183;refine(HD.o _).mono ?_;rintro e w1 ⟨rfl,hs⟩;have HY:=h_ hs;clear hs)
        |(go_at_call 182;refine(HFA.o _ HY.o).mono ?_;rintro e w3 ⟨rfl,hs⟩;have HZ:=h_ (HN.o _ hs);clear hs))
       go_roundw
       case rel=>exact⟨rfl,_,_,h_ HZ.o.1⟩
       case measure=>exact HZ.o.2
  ·have hR:R=(x'.fin,x',v'):=by
    rw[←hrun];unfold PIt.runF;rw[if_pos h0]
   have HX:Hid (Sat ω wr (itH b vb x' v'*F)):=h_ hI.sat;have d0:((x'.fin:Int)==0)=false:=by simp;omega
   have HR:=h_ hR;clear hI hrun hR HI h0 hME;go_wp2;go_ret;rw[HR.o];exact⟨rfl,HX.o⟩
theorem at_do (ω w:World)(F:HP)(b:Nat)(s:PSt)(x:PAt)(h:Sat ω w (atH b s x*F))(dep:Nat→Nat)(hf:ItFine dep x.run x.v)(hfin:x.run.fin=0∨x.run.fin=2∨x.run.fin=4):
  Calls Tryz.prog 128 #[.pointer (some ⟨b,0,none⟩)] w (Rets ω F (.tuple #[.int .i64 ((x.run.run x.v).1:Int),.int .i64 ((x.run.run x.v).2.1.err:Int)]) (atH b s { x with run:=(x.run.run x.v).2.1,v:=(x.run.run x.v).2.2 })):=by
 obtain⟨D,hx⟩:=atH_of h;obtain⟨R,hR⟩:∃R,x.run.run x.v=R:=⟨_,rfl⟩;rw[hR];have hb:=atX_blk hx;have c9:w.cell? ⟨b,9,none⟩=some (.pointer (some ⟨D.rb,0,none⟩)):=hb.cell 9;have lt:=hb.lt;have HS0:AtCf b s x.me x.stamp D w.drew:=(atCf_of (hx.emp_)).drewN 1;obtain⟨Y,hY⟩:∃Y,Y=({ x with run:=R.2.1,v:=R.2.2 }:PAt):=⟨_,rfl⟩
 rw[←hY];have HRUN:Hid (∀q,Calls Tryz.prog 155 #[.pointer (some ⟨D.rb,0,none⟩)] (w.drewN q) fun e w'=>e=.returned (.int .i64 R.1)∧Sat ω w' (atX b s Y D*F)):=h_ (fun q=>by
  obtain⟨G,h1,h2⟩:=at_it (hx.drewN q);refine(ip_run ω _ G D.rb D.vb x.run x.v h1 dep hf hfin).mono ?_;rintro e w1 ⟨rfl,h3⟩;rw[hR] at h3 ⊢;refine⟨rfl,?_⟩;have h4:=h2 w1 emp R.2.1 R.2.2 h3.emp_;rw[hY];exact h4.perm (emp_star _))
 have HERR:Hid (∀w1,Sat ω w1 (atX b s Y D*F)→AtCf b s x.me x.stamp D w1∧Calls Tryz.prog 156 #[.pointer (some ⟨D.rb,0,none⟩)] w1 fun e w'=>e=.returned (.int .i64 R.2.1.err)∧w'=w1):=h_ (fun w1 h1=>by
  obtain⟨G,h2,_⟩:=at_it h1;have h3:=atCf_of (h1.emp_);rw[hY] at h2 h3;exact⟨h3,ip_err ω w1 G D.rb D.vb R.2.1 R.2.2 h2⟩)
 have HFI:Hid (∀w1,Sat ω w1 (atX b s Y D*F)→Sat ω w1 (atH b s Y*F)):=h_ (fun w1 h1=>atH_to h1)
 generalize x.me=me at *
 generalize x.stamp=stamp at *
 clear h hx hb hf hfin hR hY;go_enter Tryz.func128,Tryz.ntmps128;go_wp2;refine wp_region_noPanic ?_;refine gH (AtCf b s me stamp D) HS0 fun hh0=>?_
 refine tH 0 ?_ rfl ?_ (tH 1 ?_ rfl ?_ (tH 2 ?_ rfl ?_ (tH 3 ?_ rfl ?_ (tH 5 ?_ rfl ?_ (tH 6 ?_ rfl ?_ (tH 7 ?_ rfl ?_ (tH 8 ?_ rfl ?_ ?_)))))));all_goals (try (
  intro w hSw;have d0:=hSw.c0;have d2:=hSw.c2;have d3:=hSw.c3;have d6:=hSw.c6;have d21:=hSw.c21;have d13:=hSw.c13;have d9:=hSw.c9;have d12:=hSw.c12;have dl:=hSw.lt;try simp only[Act.put,sA,sB,sC]
  go_simp<;>(try with_reducible rfl)))
 try simp only[Act.put,sA,sB,sC]
 refine oH 4 rfl fun K hK=>?_
 go_simp;go_at_call 155;refine(HRUN.o _).mono ?_;rintro e wA ⟨rfl,hs⟩;have hq:=HERR.o _ hs;have HQ1:=h_ hq.1;have HQ2:=h_ hq.2;have HZ:=h_ hs;clear hs hq;first|(refine hK.q ?_ fun hh1=>?_)|(go_wp2_with fail;refine hK.q ?_ fun hh1=>?_)
 ·exact HQ1.o
 clear hK K hh0;try simp only[Act.put,sA,sB,sC]
 refine oH 9 rfl fun K hK=>?_
 go_simp;go_at_call 156;refine(HQ2.o).mono ?_;rintro e wB ⟨rfl,rfl⟩;first|(refine hK.q ?_ fun hh2=>?_)|(go_wp2_with fail;refine hK.q ?_ fun hh2=>?_)
 ·exact HQ1.o
 clear hK K hh1;try simp only[Act.put,sA,sB,sC]
 refine tH 10 ?_ rfl ?_ (tH 11 ?_ rfl ?_ ?_);all_goals (try (
  intro w hSw;have d0:=hSw.c0;have d2:=hSw.c2;have d3:=hSw.c3;have d6:=hSw.c6;have d21:=hSw.c21;have d13:=hSw.c13;have d9:=hSw.c9;have d12:=hSw.c12;have dl:=hSw.lt;try simp only[Act.put,sA,sB,sC]
  go_simp<;>(try with_reducible rfl)))
 try simp only[Act.put,sA,sB,sC]
 refine dH (NoPanic.normal ?_);go_wp2;go_ret2;exact⟨rfl,HFI.o _ HZ.o⟩
end Go.Proofs.YtfodmgaliclhfaaGreatDoor
