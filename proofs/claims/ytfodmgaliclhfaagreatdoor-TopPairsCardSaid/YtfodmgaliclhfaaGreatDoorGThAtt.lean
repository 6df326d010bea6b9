/- Lemmas for TopPairs; no conditions. -/
import Derived.Test.YtfodmgaliclhfaaGreatDoorThTell
namespace Go.Proofs.YtfodmgaliclhfaaGreatDoor
set_option linter.unusedVariables false
set_option linter.unusedSimpArgs false
set_option maxRecDepth 100000
set_option maxHeartbeats 16000000
open Go.RowKit
theorem fin69 {W:World}{p:Nat}{A B C D E G H I J:Int}{A1 A2:Option Addr}{n1 n2 c1 c2:Nat}{S:ByteArray}{tmps:Array Value}(h2:tmps.getD 2 undef=.pointer (some ⟨p,0,none⟩))(hb:Blk W p 52 #[.int .i64 A,.int .i64 B,.int .i64 C,.bool false,.int .i64 D,.int .i64 E,.int .u64 G,.int .u64 H,.int .i64 I,.int .i64 J,.slice A1 n1 c1,.slice A2 n2 c2,.slice none 0 0,.string S])(Q:Ending→World→Prop)(hq:Q (.returned (.agg #[.int .i64 A,.int .i64 B,.int .i64 C,.bool false,.int .i64 D,.int .i64 E,.int .u64 G,.int .u64 H,.int .i64 I,.int .i64 J,.slice A1 n1 c1,.slice A2 n2 c2,.slice none 0 0,.string S])) W):
  bodyPost Tryz.prog Tryz.f69 Q Exit.ret { tmps:=tmps,defers:=[] } W:=by
 have kl:=hb.lt;have m0:=hb.c 0;have m1:=hb.c 1;have m2:=hb.c 2;have m3:=hb.c 3;have m4:=hb.c 4;have m5:=hb.c 5;have m6:=hb.c 6;have m7:=hb.c 7;have m8:=hb.c 8;have m9:=hb.c 9;have m10:=hb.c 10;have m11:=hb.c 11;have m12:=hb.c 12;have m13:=hb.c 13;have h2':tmps[2]?.getD undef=.pointer (some ⟨p,0,none⟩):=by simpa using h2
 refine bodyPost_ret (v:=.agg #[.int .i64 A,.int .i64 B,.int .i64 C,.bool false,.int .i64 D,.int .i64 E,.int .u64 G,.int .u64 H,.int .i64 I,.int .i64 J,.slice A1 n1 c1,.slice A2 n2 c2,.slice none 0 0,.string S]) ?_ rfl hq;simp[results,Tryz.results69,go_sem,h2',m0,m1,m2,m3,m4,m5,m6,m7,m8,m9,m10,m11,m12,m13]
def CopS (N:Nat)(CS:Array Value)(w:World):Prop:=∃u1 u2,Blk w N 52 ((CS.setIfInBounds 10 u1).setIfInBounds 11 u2)
theorem th_copied (ω w:World)(F:HP)(thread job try_ kind err begin stamp born ended:Nat)(sl:ByteArray)(A1 A2:Option Addr)(n1 c1 n2 c2:Nat)(l1 l2:List (Nat×Nat))(hn1:n1≤1000000)(hn2:n2≤1000000)(h:Sat ω w (row 54 2 (.slice A1 n1 c1) n1 (vS l1)*(row 54 2 (.slice A2 n2 c2) n2 (vS l2)*F))):
  Calls Tryz.prog 69 #[.agg #[.int .i64 thread,.int .i64 job,.int .i64 try_,.bool false,.int .i64 kind,.int .i64 err,.int .u64 begin,.int .u64 stamp,.int .i64 born,.int .i64 ended,.slice A1 n1 c1,.slice A2 n2 c2,.slice none 0 0,.string sl]] w fun e w'=>∃B1 d1 B2 d2,e=.returned (.agg #[.int .i64 thread,.int .i64 job,.int .i64 try_,.bool false,.int .i64 kind,.int .i64 err,.int .u64 begin,.int .u64 stamp,.int .i64 born,.int .i64 ended,.slice B1 n1 d1,.slice B2 n2 d2,.slice none 0 0,.string sl])∧Sat ω w' ((row 54 2 (.slice B1 n1 d1) n1 (vS l1)*row 54 2 (.slice B2 n2 d2) n2 (vS l2))*(row 54 2 (.slice A1 n1 c1) n1 (vS l1)*(row 54 2 (.slice A2 n2 c2) n2 (vS l2)*F))):=by
 obtain⟨N,hN⟩:∃N,w.heap.size=N:=⟨_,rfl⟩;obtain⟨R1,hR1⟩:∃R1:HP,R1=row 54 2 (.slice A1 n1 c1) n1 (vS l1):=⟨_,rfl⟩;obtain⟨R2,hR2⟩:∃R2:HP,R2=row 54 2 (.slice A2 n2 c2) n2 (vS l2):=⟨_,rfl⟩;have HC1:Hid (∀w1 G,Sat ω w1 (R1*G)→Calls Tryz.prog 106 #[.slice A1 n1 c1] w1 fun e w'=>∃B d,e=.returned (.slice B n1 d)∧Sat ω w' (row 54 2 (.slice B n1 d) n1 (vS l1)*(R1*G))):=h_ (fun w1 G h1=>by
  rw[hR1] at h1 ⊢;refine(cloneCell ω w1 G A1 n1 c1 (vS l1) h1 hn1 (vS_one _)).mono ?_;rintro e w2 ⟨B,d,rfl,h2⟩;exact⟨B,d,rfl,h2⟩)
 have HC2:Hid (∀w1 G,Sat ω w1 (R2*G)→Calls Tryz.prog 106 #[.slice A2 n2 c2] w1 fun e w'=>∃B d,e=.returned (.slice B n2 d)∧Sat ω w' (row 54 2 (.slice B n2 d) n2 (vS l2)*(R2*G))):=h_ (fun w1 G h1=>by
  rw[hR2] at h1 ⊢;refine(cloneCell ω w1 G A2 n2 c2 (vS l2) h1 hn2 (vS_one _)).mono ?_;rintro e w2 ⟨B,d,rfl,h2⟩;exact⟨B,d,rfl,h2⟩)
 have HC3:=h_ (fun w1=>Tryz.slices_Clone_int_nil 0 0 w1)
 rw[←hR1,←hR2] at h ⊢;have HX0:Hid (Sat ω ((w.alloc (.cells #[.int .i64 thread,.int .i64 job,.int .i64 try_,.bool false,.int .i64 kind,.int .i64 err,.int .u64 begin,.int .u64 stamp,.int .i64 born,.int .i64 ended,.slice A1 n1 c1,.slice A2 n2 c2,.slice none 0 0,.string sl] 52)).alloc (.cells #[.int .i64 0,.int .i64 0,.int .i64 0,.bool false,.int .i64 0,.int .i64 0,.int .u64 0,.int .u64 0,.int .i64 0,.int .i64 0,.slice none 0 0,.slice none 0 0,.slice none 0 0,.string ⟨#[]⟩] 52)) (R1*(bk N 52 #[.int .i64 thread,.int .i64 job,.int .i64 try_,.bool false,.int .i64 kind,.int .i64 err,.int .u64 begin,.int .u64 stamp,.int .i64 born,.int .i64 ended,.slice A1 n1 c1,.slice A2 n2 c2,.slice none 0 0,.string sl]*(bk (N+1) 52 #[.int .i64 0,.int .i64 0,.int .i64 0,.bool false,.int .i64 0,.int .i64 0,.int .u64 0,.int .u64 0,.int .i64 0,.int .i64 0,.slice none 0 0,.slice none 0 0,.slice none 0 0,.string ⟨#[]⟩]*(R2*F))))):=h_ (by
  have h1:=(h.new #[.int .i64 thread,.int .i64 job,.int .i64 try_,.bool false,.int .i64 kind,.int .i64 err,.int .u64 begin,.int .u64 stamp,.int .i64 born,.int .i64 ended,.slice A1 n1 c1,.slice A2 n2 c2,.slice none 0 0,.string sl] 52).new #[.int .i64 0,.int .i64 0,.int .i64 0,.bool false,.int .i64 0,.int .i64 0,.int .u64 0,.int .u64 0,.int .i64 0,.int .i64 0,.slice none 0 0,.slice none 0 0,.slice none 0 0,.string ⟨#[]⟩] 52;simp only[World.size_alloc] at h1;rw[hN] at h1;exact h1.perm (by ac_rfl))
 have HX1:=h_ (HX0.o.drewN 1);have hlN:w.heap.size<w.heap.size+1:=by omega
 have hlN2:w.heap.size<w.heap.size+1+1:=by omega
 have HB1:Hid (∀w1 R,Sat ω w1 (R*(R1*(bk N 52 #[.int .i64 thread,.int .i64 job,.int .i64 try_,.bool false,.int .i64 kind,.int .i64 err,.int .u64 begin,.int .u64 stamp,.int .i64 born,.int .i64 ended,.slice A1 n1 c1,.slice A2 n2 c2,.slice none 0 0,.string sl]*(bk (N+1) 52 #[.int .i64 0,.int .i64 0,.int .i64 0,.bool false,.int .i64 0,.int .i64 0,.int .u64 0,.int .u64 0,.int .i64 0,.int .i64 0,.slice none 0 0,.slice none 0 0,.slice none 0 0,.string ⟨#[]⟩]*(R2*F)))))→Blk w1 N 52 #[.int .i64 thread,.int .i64 job,.int .i64 try_,.bool false,.int .i64 kind,.int .i64 err,.int .u64 begin,.int .u64 stamp,.int .i64 born,.int .i64 ended,.slice A1 n1 c1,.slice A2 n2 c2,.slice none 0 0,.string sl]):=h_ (fun w1 R h1=>h1.right.right.blk)
 have HB2:Hid (∀w1 Ra Rb,Sat ω w1 (Ra*(R2*(Rb*(R1*(bk N 52 #[.int .i64 thread,.int .i64 job,.int .i64 try_,.bool false,.int .i64 kind,.int .i64 err,.int .u64 begin,.int .u64 stamp,.int .i64 born,.int .i64 ended,.slice A1 n1 c1,.slice A2 n2 c2,.slice none 0 0,.string sl]*(bk (N+1) 52 #[.int .i64 0,.int .i64 0,.int .i64 0,.bool false,.int .i64 0,.int .i64 0,.int .u64 0,.int .u64 0,.int .i64 0,.int .i64 0,.slice none 0 0,.slice none 0 0,.slice none 0 0,.string ⟨#[]⟩]*F))))))→Blk w1 N 52 #[.int .i64 thread,.int .i64 job,.int .i64 try_,.bool false,.int .i64 kind,.int .i64 err,.int .u64 begin,.int .u64 stamp,.int .i64 born,.int .i64 ended,.slice A1 n1 c1,.slice A2 n2 c2,.slice none 0 0,.string sl]):=h_ (fun w1 Ra Rb h1=>h1.right.right.right.right.blk)
 have HP2:Hid (∀w1 R,Sat ω w1 (R*(R1*(bk N 52 #[.int .i64 thread,.int .i64 job,.int .i64 try_,.bool false,.int .i64 kind,.int .i64 err,.int .u64 begin,.int .u64 stamp,.int .i64 born,.int .i64 ended,.slice A1 n1 c1,.slice A2 n2 c2,.slice none 0 0,.string sl]*(bk (N+1) 52 #[.int .i64 0,.int .i64 0,.int .i64 0,.bool false,.int .i64 0,.int .i64 0,.int .u64 0,.int .u64 0,.int .i64 0,.int .i64 0,.slice none 0 0,.slice none 0 0,.slice none 0 0,.string ⟨#[]⟩]*(R2*F)))))→Sat ω w1 (R2*(R*(R1*(bk N 52 #[.int .i64 thread,.int .i64 job,.int .i64 try_,.bool false,.int .i64 kind,.int .i64 err,.int .u64 begin,.int .u64 stamp,.int .i64 born,.int .i64 ended,.slice A1 n1 c1,.slice A2 n2 c2,.slice none 0 0,.string sl]*(bk (N+1) 52 #[.int .i64 0,.int .i64 0,.int .i64 0,.bool false,.int .i64 0,.int .i64 0,.int .u64 0,.int .u64 0,.int .i64 0,.int .i64 0,.slice none 0 0,.slice none 0 0,.slice none 0 0,.string ⟨#[]⟩]*F)))))):=h_ (fun w1 R h1=>h1.perm (by ac_rfl))
 have HFI:Hid (∀w1 B1 d1 B2 d2,Sat ω w1 (row 54 2 (.slice B2 n2 d2) n2 (vS l2)*(R2*(row 54 2 (.slice B1 n1 d1) n1 (vS l1)*(R1*(bk N 52 #[.int .i64 thread,.int .i64 job,.int .i64 try_,.bool false,.int .i64 kind,.int .i64 err,.int .u64 begin,.int .u64 stamp,.int .i64 born,.int .i64 ended,.slice A1 n1 c1,.slice A2 n2 c2,.slice none 0 0,.string sl]*(bk (N+1) 52 #[.int .i64 0,.int .i64 0,.int .i64 0,.bool false,.int .i64 0,.int .i64 0,.int .u64 0,.int .u64 0,.int .i64 0,.int .i64 0,.slice none 0 0,.slice none 0 0,.slice none 0 0,.string ⟨#[]⟩]*F))))))→Sat ω (((w1.setCell ⟨N,10,none⟩ (.slice B1 n1 d1)).setCell ⟨N,11,none⟩ (.slice B2 n2 d2)).setCell ⟨N,12,none⟩ (.slice none 0 0)) (bk (N+1) 52 #[.int .i64 0,.int .i64 0,.int .i64 0,.bool false,.int .i64 0,.int .i64 0,.int .u64 0,.int .u64 0,.int .i64 0,.int .i64 0,.slice none 0 0,.slice none 0 0,.slice none 0 0,.string ⟨#[]⟩]*(bk N 52 #[.int .i64 thread,.int .i64 job,.int .i64 try_,.bool false,.int .i64 kind,.int .i64 err,.int .u64 begin,.int .u64 stamp,.int .i64 born,.int .i64 ended,.slice B1 n1 d1,.slice B2 n2 d2,.slice none 0 0,.string sl]*((row 54 2 (.slice B1 n1 d1) n1 (vS l1)*row 54 2 (.slice B2 n2 d2) n2 (vS l2))*(R1*(R2*F)))))):=h_ (fun w1 B1 d1 B2 d2 h1=>by
  have h2:Sat ω w1 (bk N 52 #[.int .i64 thread,.int .i64 job,.int .i64 try_,.bool false,.int .i64 kind,.int .i64 err,.int .u64 begin,.int .u64 stamp,.int .i64 born,.int .i64 ended,.slice A1 n1 c1,.slice A2 n2 c2,.slice none 0 0,.string sl]*(bk (N+1) 52 #[.int .i64 0,.int .i64 0,.int .i64 0,.bool false,.int .i64 0,.int .i64 0,.int .u64 0,.int .u64 0,.int .i64 0,.int .i64 0,.slice none 0 0,.slice none 0 0,.slice none 0 0,.string ⟨#[]⟩]*((row 54 2 (.slice B1 n1 d1) n1 (vS l1)*row 54 2 (.slice B2 n2 d2) n2 (vS l2))*(R1*(R2*F))))):=h1.perm (by ac_rfl)
  exact(((h2.put 10 (.slice B1 n1 d1) (cs':=#[.int .i64 thread,.int .i64 job,.int .i64 try_,.bool false,.int .i64 kind,.int .i64 err,.int .u64 begin,.int .u64 stamp,.int .i64 born,.int .i64 ended,.slice B1 n1 d1,.slice A2 n2 c2,.slice none 0 0,.string sl]) rfl).put 11 (.slice B2 n2 d2) (cs':=#[.int .i64 thread,.int .i64 job,.int .i64 try_,.bool false,.int .i64 kind,.int .i64 err,.int .u64 begin,.int .u64 stamp,.int .i64 born,.int .i64 ended,.slice B1 n1 d1,.slice B2 n2 d2,.slice none 0 0,.string sl]) rfl).put 12 (.slice none 0 0) (cs':=#[.int .i64 thread,.int .i64 job,.int .i64 try_,.bool false,.int .i64 kind,.int .i64 err,.int .u64 begin,.int .u64 stamp,.int .i64 born,.int .i64 ended,.slice B1 n1 d1,.slice B2 n2 d2,.slice none 0 0,.string sl]) rfl).swap)
 have HP14:Hid (∀w1 B1 d1 B2 d2 G,Sat ω w1 (bk (N+1) 52 #[.int .i64 0,.int .i64 0,.int .i64 0,.bool false,.int .i64 0,.int .i64 0,.int .u64 0,.int .u64 0,.int .i64 0,.int .i64 0,.slice none 0 0,.slice none 0 0,.slice none 0 0,.string ⟨#[]⟩]*G)→Sat ω ((((((((((((((w1.setCell ⟨N+1,0,none⟩ (.int .i64 thread)).setCell ⟨N+1,1,none⟩ (.int .i64 job)).setCell ⟨N+1,2,none⟩ (.int .i64 try_)).setCell ⟨N+1,3,none⟩ (.bool false)).setCell ⟨N+1,4,none⟩ (.int .i64 kind)).setCell ⟨N+1,5,none⟩ (.int .i64 err)).setCell ⟨N+1,6,none⟩ (.int .u64 begin)).setCell ⟨N+1,7,none⟩ (.int .u64 stamp)).setCell ⟨N+1,8,none⟩ (.int .i64 born)).setCell ⟨N+1,9,none⟩ (.int .i64 ended)).setCell ⟨N+1,10,none⟩ (.slice B1 n1 d1)).setCell ⟨N+1,11,none⟩ (.slice B2 n2 d2)).setCell ⟨N+1,12,none⟩ (.slice none 0 0)).setCell ⟨N+1,13,none⟩ (.string sl)) (bk (N+1) 52 #[.int .i64 thread,.int .i64 job,.int .i64 try_,.bool false,.int .i64 kind,.int .i64 err,.int .u64 begin,.int .u64 stamp,.int .i64 born,.int .i64 ended,.slice B1 n1 d1,.slice B2 n2 d2,.slice none 0 0,.string sl]*G)):=h_ (fun w1 B1 d1 B2 d2 G h1=>put14 (.int .i64 thread) (.int .i64 job) (.int .i64 try_) (.bool false) (.int .i64 kind) (.int .i64 err) (.int .u64 begin) (.int .u64 stamp) (.int .i64 born) (.int .i64 ended) (.slice B1 n1 d1) (.slice B2 n2 d2) (.slice none 0 0) (.string sl) h1)
 clear h hR1 hR2;go_enter Tryz.func69,Tryz.ntmps69;go_upto_region 1 with(fail)
 go_cut [] from 3 (fun wx=>∃B1 d1 B2 d2,Hid (Sat ω wx (bk (N+1) 52 #[.int .i64 0,.int .i64 0,.int .i64 0,.bool false,.int .i64 0,.int .i64 0,.int .u64 0,.int .u64 0,.int .i64 0,.int .i64 0,.slice none 0 0,.slice none 0 0,.slice none 0 0,.string ⟨#[]⟩]*(bk N 52 #[.int .i64 thread,.int .i64 job,.int .i64 try_,.bool false,.int .i64 kind,.int .i64 err,.int .u64 begin,.int .u64 stamp,.int .i64 born,.int .i64 ended,.slice B1 n1 d1,.slice B2 n2 d2,.slice none 0 0,.string sl]*((row 54 2 (.slice B1 n1 d1) n1 (vS l1)*row 54 2 (.slice B2 n2 d2) n2 (vS l2))*(R1*(R2*F)))))))
 case first =>
  have kX:=HX1.o.right.blk;have lX:=kX.lt;have fX:=kX.frozen;have x10:((w.alloc (.cells #[.int .i64 thread,.int .i64 job,.int .i64 try_,.bool false,.int .i64 kind,.int .i64 err,.int .u64 begin,.int .u64 stamp,.int .i64 born,.int .i64 ended,.slice A1 n1 c1,.slice A2 n2 c2,.slice none 0 0,.string sl] 52)).alloc (.cells #[.int .i64 0,.int .i64 0,.int .i64 0,.bool false,.int .i64 0,.int .i64 0,.int .u64 0,.int .u64 0,.int .i64 0,.int .i64 0,.slice none 0 0,.slice none 0 0,.slice none 0 0,.string ⟨#[]⟩] 52)).drew.cell? ⟨N,10,none⟩=some (.slice A1 n1 c1):=kX.cell 10;have x11:((w.alloc (.cells #[.int .i64 thread,.int .i64 job,.int .i64 try_,.bool false,.int .i64 kind,.int .i64 err,.int .u64 begin,.int .u64 stamp,.int .i64 born,.int .i64 ended,.slice A1 n1 c1,.slice A2 n2 c2,.slice none 0 0,.string sl] 52)).alloc (.cells #[.int .i64 0,.int .i64 0,.int .i64 0,.bool false,.int .i64 0,.int .i64 0,.int .u64 0,.int .u64 0,.int .i64 0,.int .i64 0,.slice none 0 0,.slice none 0 0,.slice none 0 0,.string ⟨#[]⟩] 52)).drew.cell? ⟨N,11,none⟩=some (.slice A2 n2 c2):=kX.cell 11;have x12:((w.alloc (.cells #[.int .i64 thread,.int .i64 job,.int .i64 try_,.bool false,.int .i64 kind,.int .i64 err,.int .u64 begin,.int .u64 stamp,.int .i64 born,.int .i64 ended,.slice A1 n1 c1,.slice A2 n2 c2,.slice none 0 0,.string sl] 52)).alloc (.cells #[.int .i64 0,.int .i64 0,.int .i64 0,.bool false,.int .i64 0,.int .i64 0,.int .u64 0,.int .u64 0,.int .i64 0,.int .i64 0,.slice none 0 0,.slice none 0 0,.slice none 0 0,.string ⟨#[]⟩] 52)).drew.cell? ⟨N,12,none⟩=some (.slice none 0 0):=kX.cell 12;refine wp_region_noPanic ?_;refine wp_region_held_drew (S:=CopS N #[.int .i64 thread,.int .i64 job,.int .i64 try_,.bool false,.int .i64 kind,.int .i64 err,.int .u64 begin,.int .u64 stamp,.int .i64 born,.int .i64 ended,.slice A1 n1 c1,.slice A2 n2 c2,.slice none 0 0,.string sl]) (by kernel_rfl) ⟨.slice A1 n1 c1,.slice A2 n2 c2,HX1.o.right.blk⟩ (fun hh0=>?_)
  refine tH 0 ?_ rfl ?_ (tH 3 ?_ rfl ?_ (tH 6 ?_ rfl ?_ (tH 7 ?_ rfl ?_ ?_)));all_goals (try (
   intro w hSw;obtain⟨y1,y2,hS2⟩:=hSw;have jl:=hS2.lt;have j12:=hS2.c 12;try simp only[Act.put,sA,sB,sC]
   go_simp<;>(try with_reducible rfl)))
  try simp only[Act.put,sA,sB,sC]
  refine rH [1,4] ?_;refine cH rfl (fun K hK=>?_) ?_
  ·go_simp;first|(refine hK.q ?_ fun hh1=>?_)|(go_wp2_with fail;refine hK.q ?_ fun hh1=>?_)
   ·exact⟨.slice A1 n1 c1,.slice A2 n2 c2,HX1.o.right.blk⟩
   clear hK K hh0;try simp only[Act.put,sA,sB,sC]
   refine rH [2,4] ?_;refine cH rfl (fun K hK=>?_) ?_
   ·go_simp;go_at_call 106;refine(HC1.o _ _ HX1.o).mono ?_;rintro e wA ⟨B1,d1,rfl,hs⟩;have HA:=h_ hs;have kA:=HB1.o _ _ hs;have lA:=kA.lt;have fA:=kA.frozen;have p10:=kA.c 10;have p11:=kA.c 11;have p12:=kA.c 12;clear hs kA;first|(refine hK.q ?_ fun hh2=>?_)|(go_wp2_with fail;refine hK.q ?_ fun hh2=>?_)
    ·exact⟨.slice A1 n1 c1,.slice A2 n2 c2,HB1.o _ _ HA.o⟩
    clear hK K hh1;try simp only[Act.put,sA,sB,sC]
    refine oH 4 rfl fun K hK=>?_
    go_simp;first|(refine hK.q ?_ fun hh3=>?_)|(go_wp2_with fail;refine hK.q ?_ fun hh3=>?_)
    ·exact⟨.slice A1 n1 c1,.slice A2 n2 c2,HB1.o _ _ HA.o⟩
    clear hK K hh2;try simp only[Act.put,sA,sB,sC]
    refine tH 9 ?_ rfl ?_ ?_;all_goals (try (
     intro w hSw;obtain⟨y1,y2,hS2⟩:=hSw;have jl:=hS2.lt;have j12:=hS2.c 12;go_simp<;>(try with_reducible rfl)))
    try simp only[Act.put,sA,sB,sC]
    refine oH 5 rfl fun K hK=>?_
    go_simp;go_at_call 106;refine(HC2.o _ _ (HP2.o _ _ HA.o)).mono ?_;rintro e wB ⟨B2,d2,rfl,hs⟩;have HB:=h_ hs;have kB:=HB2.o _ _ _ hs;have lB:=kB.lt;have fB:=kB.frozen;have r10:=kB.c 10;have r11:=kB.c 11;have r12:=kB.c 12;clear hs kB;first|(refine hK.q ?_ fun hh4=>?_)|(go_wp2_with fail;refine hK.q ?_ fun hh4=>?_)
    ·exact⟨.slice A1 n1 c1,.slice A2 n2 c2,HB2.o _ _ _ HB.o⟩
    clear hK K hh3;try simp only[Act.put,sA,sB,sC]
    refine oH 8 rfl fun K hK=>?_
    go_simp;go_at_call 107;refine(HC3.o _).mono ?_;rintro e wQ ⟨rfl,rfl⟩;first|(refine hK.q ?_ fun hh5=>?_)|(go_wp2_with fail;refine hK.q ?_ fun hh5=>?_)
    ·exact⟨.slice A1 n1 c1,.slice A2 n2 c2,HB2.o _ _ _ HB.o⟩
    clear hK K hh4;try simp only[Act.put,sA,sB,sC]
    refine oH 10 rfl fun K hK=>?_
    go_simp;first|(refine hK.q ?_ fun hh6=>?_)|(go_wp2_with fail;refine hK.q ?_ fun hh6=>?_)
    ·exact⟨.slice B1 n1 d1,.slice A2 n2 c2,(HB2.o _ _ _ HB.o).set_ 10 (.slice B1 n1 d1)⟩
    clear hK K hh5;try simp only[Act.put,sA,sB,sC]
    refine tH 11 ?_ rfl ?_ ?_;all_goals (try (
     intro w hSw;obtain⟨y1,y2,hS2⟩:=hSw;have jl:=hS2.lt;have j12:=hS2.c 12;go_simp<;>(try with_reducible rfl)))
    try simp only[Act.put,sA,sB,sC]
    refine oH 12 rfl fun K hK=>?_
    go_simp;first|(refine hK.q ?_ fun hh7=>?_)|(go_wp2_with fail;refine hK.q ?_ fun hh7=>?_)
    ·exact⟨.slice B1 n1 d1,.slice B2 n2 d2,((HB2.o _ _ _ HB.o).set_ 10 (.slice B1 n1 d1)).set_ 11 (.slice B2 n2 d2)⟩
    clear hK K hh6;try simp only[Act.put,sA,sB,sC]
    refine tH 13 ?_ rfl ?_ ?_;all_goals (try (
     intro w hSw;obtain⟨y1,y2,hS2⟩:=hSw;have jl:=hS2.lt;have j12:=hS2.c 12;go_simp<;>(try with_reducible rfl)))
    try simp only[Act.put,sA,sB,sC]
    refine oH 14 rfl fun K hK=>?_
    go_simp;first|(refine hK.q ?_ fun hh8=>?_)|(go_wp2_with fail;refine hK.q ?_ fun hh8=>?_)
    ·exact⟨.slice B1 n1 d1,.slice B2 n2 d2,(((HB2.o _ _ _ HB.o).set_ 10 (.slice B1 n1 d1)).set_ 11 (.slice B2 n2 d2)).set_ 12 (.slice none 0 0)⟩
    clear hK K hh7;try simp only[Act.put,sA,sB,sC]
    refine dH (NoPanic.normal ?_);go_wp2_with fail;go_meet;exact⟨B1,d1,B2,d2,HFI.o _ _ _ _ _ HB.o⟩
   refine nH rfl fun K hK=>?_
   ·go_simp;first|(refine hK.q ?_ fun hh2=>?_)|(go_wp2_with fail;refine hK.q ?_ fun hh2=>?_)
    ·exact⟨.slice A1 n1 c1,.slice A2 n2 c2,HX1.o.right.blk⟩
    clear hK K hh1;try simp only[Act.put,sA,sB,sC]
    refine oH 2 rfl fun K hK=>?_
    go_simp;go_at_call 106;refine(HC1.o _ _ HX1.o).mono ?_;rintro e wA ⟨B1,d1,rfl,hs⟩;have HA:=h_ hs;have kA:=HB1.o _ _ hs;have lA:=kA.lt;have fA:=kA.frozen;have p10:=kA.c 10;have p11:=kA.c 11;have p12:=kA.c 12;clear hs kA;first|(refine hK.q ?_ fun hh3=>?_)|(go_wp2_with fail;refine hK.q ?_ fun hh3=>?_)
    ·exact⟨.slice A1 n1 c1,.slice A2 n2 c2,HB1.o _ _ HA.o⟩
    clear hK K hh2;try simp only[Act.put,sA,sB,sC]
    refine tH 9 ?_ rfl ?_ ?_;all_goals (try (
     intro w hSw;obtain⟨y1,y2,hS2⟩:=hSw;have jl:=hS2.lt;have j12:=hS2.c 12;go_simp<;>(try with_reducible rfl)))
    try simp only[Act.put,sA,sB,sC]
    refine oH 5 rfl fun K hK=>?_
    go_simp;go_at_call 106;refine(HC2.o _ _ (HP2.o _ _ HA.o)).mono ?_;rintro e wB ⟨B2,d2,rfl,hs⟩;have HB:=h_ hs;have kB:=HB2.o _ _ _ hs;have lB:=kB.lt;have fB:=kB.frozen;have r10:=kB.c 10;have r11:=kB.c 11;have r12:=kB.c 12;clear hs kB;first|(refine hK.q ?_ fun hh4=>?_)|(go_wp2_with fail;refine hK.q ?_ fun hh4=>?_)
    ·exact⟨.slice A1 n1 c1,.slice A2 n2 c2,HB2.o _ _ _ HB.o⟩
    clear hK K hh3;try simp only[Act.put,sA,sB,sC]
    refine oH 8 rfl fun K hK=>?_
    go_simp;go_at_call 107;refine(HC3.o _).mono ?_;rintro e wQ ⟨rfl,rfl⟩;first|(refine hK.q ?_ fun hh5=>?_)|(go_wp2_with fail;refine hK.q ?_ fun hh5=>?_)
    ·exact⟨.slice A1 n1 c1,.slice A2 n2 c2,HB2.o _ _ _ HB.o⟩
    clear hK K hh4;try simp only[Act.put,sA,sB,sC]
    refine oH 10 rfl fun K hK=>?_
    go_simp;first|(refine hK.q ?_ fun hh6=>?_)|(go_wp2_with fail;refine hK.q ?_ fun hh6=>?_)
    ·exact⟨.slice B1 n1 d1,.slice A2 n2 c2,(HB2.o _ _ _ HB.o).set_ 10 (.slice B1 n1 d1)⟩
    clear hK K hh5;try simp only[Act.put,sA,sB,sC]
    refine tH 11 ?_ rfl ?_ ?_;all_goals (try (
     intro w hSw;obtain⟨y1,y2,hS2⟩:=hSw;have jl:=hS2.lt;have j12:=hS2.c 12;go_simp<;>(try with_reducible rfl)))
    try simp only[Act.put,sA,sB,sC]
    refine oH 12 rfl fun K hK=>?_
    go_simp;first|(refine hK.q ?_ fun hh7=>?_)|(go_wp2_with fail;refine hK.q ?_ fun hh7=>?_)
    ·exact⟨.slice B1 n1 d1,.slice B2 n2 d2,((HB2.o _ _ _ HB.o).set_ 10 (.slice B1 n1 d1)).set_ 11 (.slice B2 n2 d2)⟩
    clear hK K hh6;try simp only[Act.put,sA,sB,sC]
    refine tH 13 ?_ rfl ?_ ?_;all_goals (try (
     intro w hSw;obtain⟨y1,y2,hS2⟩:=hSw;have jl:=hS2.lt;have j12:=hS2.c 12;go_simp<;>(try with_reducible rfl)))
    try simp only[Act.put,sA,sB,sC]
    refine oH 14 rfl fun K hK=>?_
    go_simp;first|(refine hK.q ?_ fun hh8=>?_)|(go_wp2_with fail;refine hK.q ?_ fun hh8=>?_)
    ·exact⟨.slice B1 n1 d1,.slice B2 n2 d2,(((HB2.o _ _ _ HB.o).set_ 10 (.slice B1 n1 d1)).set_ 11 (.slice B2 n2 d2)).set_ 12 (.slice none 0 0)⟩
    clear hK K hh7;try simp only[Act.put,sA,sB,sC]
    refine dH (NoPanic.normal ?_);go_wp2_with fail;go_meet;exact⟨B1,d1,B2,d2,HFI.o _ _ _ _ _ HB.o⟩
  refine nH rfl fun K hK=>?_
  ·go_simp;first|(refine hK.q ?_ fun hh1=>?_)|(go_wp2_with fail;refine hK.q ?_ fun hh1=>?_)
   ·exact⟨.slice A1 n1 c1,.slice A2 n2 c2,HX1.o.right.blk⟩
   clear hK K hh0;try simp only[Act.put,sA,sB,sC]
   refine oH 1 rfl fun K hK=>?_
   go_simp;first|(refine hK.q ?_ fun hh2=>?_)|(go_wp2_with fail;refine hK.q ?_ fun hh2=>?_)
   ·exact⟨.slice A1 n1 c1,.slice A2 n2 c2,HX1.o.right.blk⟩
   clear hK K hh1;try simp only[Act.put,sA,sB,sC]
   refine oH 2 rfl fun K hK=>?_
   go_simp;go_at_call 106;refine(HC1.o _ _ HX1.o).mono ?_;rintro e wA ⟨B1,d1,rfl,hs⟩;have HA:=h_ hs;have kA:=HB1.o _ _ hs;have lA:=kA.lt;have fA:=kA.frozen;have p10:=kA.c 10;have p11:=kA.c 11;have p12:=kA.c 12;clear hs kA;first|(refine hK.q ?_ fun hh3=>?_)|(go_wp2_with fail;refine hK.q ?_ fun hh3=>?_)
   ·exact⟨.slice A1 n1 c1,.slice A2 n2 c2,HB1.o _ _ HA.o⟩
   clear hK K hh2;try simp only[Act.put,sA,sB,sC]
   refine tH 9 ?_ rfl ?_ ?_;all_goals (try (
    intro w hSw;obtain⟨y1,y2,hS2⟩:=hSw;have jl:=hS2.lt;have j12:=hS2.c 12;go_simp<;>(try with_reducible rfl)))
   try simp only[Act.put,sA,sB,sC]
   refine oH 5 rfl fun K hK=>?_
   go_simp;go_at_call 106;refine(HC2.o _ _ (HP2.o _ _ HA.o)).mono ?_;rintro e wB ⟨B2,d2,rfl,hs⟩;have HB:=h_ hs;have kB:=HB2.o _ _ _ hs;have lB:=kB.lt;have fB:=kB.frozen;have r10:=kB.c 10;have r11:=kB.c 11;have r12:=kB.c 12;clear hs kB;first|(refine hK.q ?_ fun hh4=>?_)|(go_wp2_with fail;refine hK.q ?_ fun hh4=>?_)
   ·exact⟨.slice A1 n1 c1,.slice A2 n2 c2,HB2.o _ _ _ HB.o⟩
   clear hK K hh3;try simp only[Act.put,sA,sB,sC]
   refine oH 8 rfl fun K hK=>?_
   go_simp;go_at_call 107;refine(HC3.o _).mono ?_;rintro e wQ ⟨rfl,rfl⟩;first|(refine hK.q ?_ fun hh5=>?_)|(go_wp2_with fail;refine hK.q ?_ fun hh5=>?_)
   ·exact⟨.slice A1 n1 c1,.slice A2 n2 c2,HB2.o _ _ _ HB.o⟩
   clear hK K hh4;try simp only[Act.put,sA,sB,sC]
   refine oH 10 rfl fun K hK=>?_
   go_simp;first|(refine hK.q ?_ fun hh6=>?_)|(go_wp2_with fail;refine hK.q ?_ fun hh6=>?_)
   ·exact⟨.slice B1 n1 d1,.slice A2 n2 c2,(HB2.o _ _ _ HB.o).set_ 10 (.slice B1 n1 d1)⟩
   clear hK K hh5;try simp only[Act.put,sA,sB,sC]
   refine tH 11 ?_ rfl ?_ ?_;all_goals (try (
    intro w hSw;obtain⟨y1,y2,hS2⟩:=hSw;have jl:=hS2.lt;have j12:=hS2.c 12;go_simp<;>(try with_reducible rfl)))
   try simp only[Act.put,sA,sB,sC]
   refine oH 12 rfl fun K hK=>?_
   go_simp;first|(refine hK.q ?_ fun hh7=>?_)|(go_wp2_with fail;refine hK.q ?_ fun hh7=>?_)
   ·exact⟨.slice B1 n1 d1,.slice B2 n2 d2,((HB2.o _ _ _ HB.o).set_ 10 (.slice B1 n1 d1)).set_ 11 (.slice B2 n2 d2)⟩
   clear hK K hh6;try simp only[Act.put,sA,sB,sC]
   refine tH 13 ?_ rfl ?_ ?_;all_goals (try (
    intro w hSw;obtain⟨y1,y2,hS2⟩:=hSw;have jl:=hS2.lt;have j12:=hS2.c 12;go_simp<;>(try with_reducible rfl)))
   try simp only[Act.put,sA,sB,sC]
   refine oH 14 rfl fun K hK=>?_
   go_simp;first|(refine hK.q ?_ fun hh8=>?_)|(go_wp2_with fail;refine hK.q ?_ fun hh8=>?_)
   ·exact⟨.slice B1 n1 d1,.slice B2 n2 d2,(((HB2.o _ _ _ HB.o).set_ 10 (.slice B1 n1 d1)).set_ 11 (.slice B2 n2 d2)).set_ 12 (.slice none 0 0)⟩
   clear hK K hh7;try simp only[Act.put,sA,sB,sC]
   refine dH (NoPanic.normal ?_);go_wp2_with fail;go_meet;exact⟨B1,d1,B2,d2,HFI.o _ _ _ _ _ HB.o⟩
 case rest =>
  obtain⟨B1,d1,B2,d2,HW⟩:=hcut;have kN:=HW.o.right.blk;have kM:=HW.o.blk;have lN:=kN.lt;have lM:=kM.lt;have fM:=kM.frozen;have a0:=kN.c 0;have a1:=kN.c 1;have a2:=kN.c 2;have a3:=kN.c 3;have a4:=kN.c 4;have a5:=kN.c 5;have a6:=kN.c 6;have a7:=kN.c 7;have a8:=kN.c 8;have a9:=kN.c 9;have a10:=kN.c 10;have a11:=kN.c 11;have a12:=kN.c 12;have a13:=kN.c 13;have z0:=kM.c 0;have z1:=kM.c 1;have z2:=kM.c 2;have z3:=kM.c 3;have z4:=kM.c 4;have z5:=kM.c 5;have z6:=kM.c 6;have z7:=kM.c 7;have z8:=kM.c 8;have z9:=kM.c 9;have z10:=kM.c 10;have z11:=kM.c 11;have z12:=kM.c 12;have z13:=kM.c 13;have HZ:=h_ (HP14.o _ B1 d1 B2 d2 _ HW.o);clear kN kM;go_wp2;refine fin69 ?_ HZ.o.blk _ ?_
  ·simp
  ·exact⟨B1,d1,B2,d2,rfl,HZ.o.right.right⟩
theorem reV_one (l:List PRe):∀u∈l.flatMap reV,u.oneCell'=true:=by
 intro u hu;obtain⟨r,_,hr⟩:=List.mem_flatMap.1 hu;simp only[reV,List.mem_cons,List.not_mem_nil,or_false] at hr;rcases hr with rfl|rfl|rfl|rfl<;>rfl
theorem th_results (ω w:World)(F:HP)(b:Nat)(s:PSt)(t:PTh)(h:Sat ω w (thH b s t*F))(hn:t.results.length≤1000000):
  Calls Tryz.prog 44 #[.pointer (some ⟨b,0,none⟩)] w (RetR ω (thH b s t*F) 66 4 t.results.length (t.results.flatMap reV)):=by
 obtain⟨D,h⟩:=thH_of h;have hb:=thX_blk h;have lt:=hb.lt;have hr:=thX_res h;obtain⟨A,c,hA⟩:=hr.rowForm;have k20:w.cell? ⟨b,20,none⟩=some (.slice A t.results.length c):=by rw[←hA];exact hb.cell 20
 have HC:Hid (Calls Tryz.prog 72 #[.slice A t.results.length c] w (RetR ω (thH b s t*F) 66 4 t.results.length (t.results.flatMap reV))):=h_ (by
  rw[hA] at hr;refine(cloneResult ω w _ A t.results.length c (t.results.flatMap reV) hr hn (reV_one _)).mono ?_;rintro e w2 ⟨B,d,rfl,h2⟩;refine⟨B,d,rfl,?_⟩;rw[←hA] at h2;have h3:Sat ω w2 (thX b s t D t.job*(row 66 4 (.slice B t.results.length d) t.results.length (t.results.flatMap reV)*F)):=thX_unres (h2.perm (by ac_rfl))
  exact(thH_to h3).swap)
 generalize t.results.length=n at *
 clear h hb hr;go_enter Tryz.func44,Tryz.ntmps44;go_wp2_with (go_at_call 72;refine(HC.o).mono ?_;rintro e w1 ⟨B,d,rfl,hs⟩;have HZ:=h_ hs;clear hs);go_ret;exact⟨_,_,rfl,HZ.o⟩
theorem toVs_zip:∀(ps:List (Value×Value)) (ts:List PTo),toVs ps ts=(ps.zip ts).flatMap fun x=>toV x.1 x.2
 | [],_=>rfl
 |_::_,[]=>rfl
 |p::ps,t::ts=>by
  show toV p t++toVs ps ts=_
  rw[toVs_zip ps ts];rfl
theorem toAll_at:∀(ps:List (Value×Value)) (ts:List PTo),ps.length=ts.length→∀k (hk:k<ts.length),∃q R,ps[k]?=some q∧toAll ps ts=toH q ts[k]*R
 | [],[],_,k,hk=>by simp at hk
 |p::ps,t::ts,h,0,_=>⟨p,toAll ps ts,rfl,rfl⟩
 |p::ps,t::ts,h,k+1,hk=>by
  obtain⟨q,R,h1,h2⟩:=toAll_at ps ts (by simpa using h) k (by simpa using hk)
  refine⟨q,toH p t*R,by simpa using h1,?_⟩
  show toH p t*toAll ps ts=_
  rw[h2];simp only[List.getElem_cons_succ];ac_rfl
theorem thX_pastAt {ω w:World}{F:HP}{b:Nat}{s:PSt}{t:PTh}{D:ThD}(h:Sat ω w (thX b s t D t.job*F)){k:Nat}(hk:k<t.past.length):
  ∃g A1 c1 A2 c2 R,D.pv.ownBlock=some g∧(∃c,D.pv=.slice (some ⟨g,0,none⟩) t.past.length c)∧g<w.heap.size∧(∀j,j<14→w.cell? ⟨g,k*14+j,none⟩=(toV (.slice A1 t.past[k].reads.length c1,.slice A2 t.past[k].cells.length c2) t.past[k])[j]?) ∧
   thX b s t D t.job=toH (.slice A1 t.past[k].reads.length c1,.slice A2 t.past[k].cells.length c2) t.past[k]*R:=by
 obtain⟨h1,h2⟩:=thX_past h;obtain⟨q,R,h3,h4⟩:=toAll_at D.ps t.past h1 k hk;obtain⟨q1,q2⟩:=q;have e:thX b s t D t.job=toH (q1,q2) t.past[k]*(bk b 138 (thC s t D t.job)*(nowH s D.nb t.now*(thJ t.jobs D*(fact (D.ps.length=t.past.length)*(row 52 14 D.pv t.past.length (toVs D.ps t.past)*(R*(row 66 4 D.rv t.results.length (t.results.flatMap reV)*bk D.lb 188 #[.slice none 0 0]))))))):=by
  unfold thX thT;rw[h4];ac_rfl
 have h5:Sat ω w (row 54 2 q1 t.past[k].reads.length (vS t.past[k].reads)*(row 54 2 q2 t.past[k].cells.length (vS t.past[k].cells)*((bk b 138 (thC s t D t.job)*(nowH s D.nb t.now*(thJ t.jobs D*(fact (D.ps.length=t.past.length)*(row 52 14 D.pv t.past.length (toVs D.ps t.past)*(R*(row 66 4 D.rv t.results.length (t.results.flatMap reV)*bk D.lb 188 #[.slice none 0 0])))))))*F))):=h.perm (by rw[e];unfold toH;ac_rfl)
 obtain⟨A1,c1,rfl⟩:=h5.rowForm;obtain⟨A2,c2,rfl⟩:=h5.right.rowForm;obtain⟨A,c,hpv⟩:=h2.rowForm;rw[hpv] at h2;have hzl:(D.ps.zip t.past).length=t.past.length:=by simp[h1]
 rw[toVs_zip] at h2;obtain⟨l,hl⟩:∃l,D.ps.zip t.past=l:=⟨_,rfl⟩;rw[hl] at h2 hzl;rw[←hzl] at h2;obtain⟨g,h6,h7,h8⟩:=h2.rowAt (l:=l) (f:=fun x=>toV x.1 x.2) (size:=14) (fun _=>rfl) ((.bool false,.bool false),⟨0,0,0,0,0,0,0,0,0,[],[],[]⟩) (i:=k) (by rw[hzl];exact hk)
 subst h6;refine⟨g,A1,c1,A2,c2,_,by rw[hpv];rfl,⟨c,hpv⟩,h7,fun j hj=>?_,e⟩
 rw[h8 j hj];have e9:l.getD k ((.bool false,.bool false),⟨0,0,0,0,0,0,0,0,0,[],[],[]⟩)=((.slice A1 t.past[k].reads.length c1,.slice A2 t.past[k].cells.length c2),t.past[k]):=by
  rw[←hl,gD,(List.getElem?_zip_eq_some (z:=((.slice A1 t.past[k].reads.length c1,.slice A2 t.past[k].cells.length c2),t.past[k]))).2 ⟨h3,List.getElem?_eq_getElem hk⟩];rfl
 rw[e9]
end Go.Proofs.YtfodmgaliclhfaaGreatDoor
