/- Lemmas for TopPairs; no conditions. -/
import Derived.Test.YtfodmgaliclhfaaGreatDoorGThFollow
namespace Go.Proofs.YtfodmgaliclhfaaGreatDoor
set_option linter.unusedVariables false
set_option linter.unusedSimpArgs false
set_option maxRecDepth 100000
set_option maxHeartbeats 8000000
open Go.RowKit
theorem put14 {ω w:World}{F:HP}{N:Nat}{t:TypeId}{a0 a1 a2 a3 a4 a5 a6 a7 a8 a9 a10 a11 a12 a13:Value}(v0 v1 v2 v3 v4 v5 v6 v7 v8 v9 v10 v11 v12 v13:Value)(h:Sat ω w (bk N t #[a0,a1,a2,a3,a4,a5,a6,a7,a8,a9,a10,a11,a12,a13]*F)):Sat ω ((((((((((((((w.setCell ⟨N,0,none⟩ v0).setCell ⟨N,1,none⟩ v1).setCell ⟨N,2,none⟩ v2).setCell ⟨N,3,none⟩ v3).setCell ⟨N,4,none⟩ v4).setCell ⟨N,5,none⟩ v5).setCell ⟨N,6,none⟩ v6).setCell ⟨N,7,none⟩ v7).setCell ⟨N,8,none⟩ v8).setCell ⟨N,9,none⟩ v9).setCell ⟨N,10,none⟩ v10).setCell ⟨N,11,none⟩ v11).setCell ⟨N,12,none⟩ v12).setCell ⟨N,13,none⟩ v13) (bk N t #[v0,v1,v2,v3,v4,v5,v6,v7,v8,v9,v10,v11,v12,v13]*F):=by
 have h0:=h.put 0 v0 (cs':=#[v0,a1,a2,a3,a4,a5,a6,a7,a8,a9,a10,a11,a12,a13]) rfl;have h1:=h0.put 1 v1 (cs':=#[v0,v1,a2,a3,a4,a5,a6,a7,a8,a9,a10,a11,a12,a13]) rfl;have h2:=h1.put 2 v2 (cs':=#[v0,v1,v2,a3,a4,a5,a6,a7,a8,a9,a10,a11,a12,a13]) rfl;have h3:=h2.put 3 v3 (cs':=#[v0,v1,v2,v3,a4,a5,a6,a7,a8,a9,a10,a11,a12,a13]) rfl;have h4:=h3.put 4 v4 (cs':=#[v0,v1,v2,v3,v4,a5,a6,a7,a8,a9,a10,a11,a12,a13]) rfl;have h5:=h4.put 5 v5 (cs':=#[v0,v1,v2,v3,v4,v5,a6,a7,a8,a9,a10,a11,a12,a13]) rfl;have h6:=h5.put 6 v6 (cs':=#[v0,v1,v2,v3,v4,v5,v6,a7,a8,a9,a10,a11,a12,a13]) rfl;have h7:=h6.put 7 v7 (cs':=#[v0,v1,v2,v3,v4,v5,v6,v7,a8,a9,a10,a11,a12,a13]) rfl;have h8:=h7.put 8 v8 (cs':=#[v0,v1,v2,v3,v4,v5,v6,v7,v8,a9,a10,a11,a12,a13]) rfl;have h9:=h8.put 9 v9 (cs':=#[v0,v1,v2,v3,v4,v5,v6,v7,v8,v9,a10,a11,a12,a13]) rfl;have h10:=h9.put 10 v10 (cs':=#[v0,v1,v2,v3,v4,v5,v6,v7,v8,v9,v10,a11,a12,a13]) rfl;have h11:=h10.put 11 v11 (cs':=#[v0,v1,v2,v3,v4,v5,v6,v7,v8,v9,v10,v11,a12,a13]) rfl;have h12:=h11.put 12 v12 (cs':=#[v0,v1,v2,v3,v4,v5,v6,v7,v8,v9,v10,v11,v12,a13]) rfl;have h13:=h12.put 13 v13 (cs':=#[v0,v1,v2,v3,v4,v5,v6,v7,v8,v9,v10,v11,v12,v13]) rfl;exact h13
theorem fin70 {W:World}{p:Nat}{A B C D E G H I J:Int}{A1 A2:Option Addr}{n1 n2 c1 c2:Nat}{S:ByteArray}{tmps:Array Value}(h2:tmps.getD 4 undef=.pointer (some ⟨p,0,none⟩))(hb:Blk W p 52 #[.int .i64 A,.int .i64 B,.int .i64 C,.bool false,.int .i64 D,.int .i64 E,.int .u64 G,.int .u64 H,.int .i64 I,.int .i64 J,.slice A1 n1 c1,.slice A2 n2 c2,.slice none 0 0,.string S])(Q:Ending→World→Prop)(hq:Q (.returned (.agg #[.int .i64 A,.int .i64 B,.int .i64 C,.bool false,.int .i64 D,.int .i64 E,.int .u64 G,.int .u64 H,.int .i64 I,.int .i64 J,.slice A1 n1 c1,.slice A2 n2 c2,.slice none 0 0,.string S])) W):
  bodyPost Tryz.prog Tryz.f70 Q Exit.ret { tmps:=tmps,defers:=[] } W:=by
 have kl:=hb.lt;have m0:=hb.c 0;have m1:=hb.c 1;have m2:=hb.c 2;have m3:=hb.c 3;have m4:=hb.c 4;have m5:=hb.c 5;have m6:=hb.c 6;have m7:=hb.c 7;have m8:=hb.c 8;have m9:=hb.c 9;have m10:=hb.c 10;have m11:=hb.c 11;have m12:=hb.c 12;have m13:=hb.c 13;have h2':tmps[4]?.getD undef=.pointer (some ⟨p,0,none⟩):=by simpa using h2
 refine bodyPost_ret (v:=.agg #[.int .i64 A,.int .i64 B,.int .i64 C,.bool false,.int .i64 D,.int .i64 E,.int .u64 G,.int .u64 H,.int .i64 I,.int .i64 J,.slice A1 n1 c1,.slice A2 n2 c2,.slice none 0 0,.string S]) ?_ rfl hq;simp[results,Tryz.results70,go_sem,h2',m0,m1,m2,m3,m4,m5,m6,m7,m8,m9,m10,m11,m12,m13]
def ToS (b:Nat)(CS:Array Value)(w:World):Prop:=Blk w b 138 CS
theorem th_told [Inhabited PowO](ω w:World)(F:HP)(b:Nat)(s:PSt)(t:PTh)(D:ThD)(x:PAt)(hx:t.now=some x)(h:Sat ω w (thX b s t D t.job*(powH*F)))(hv:x.v.ok)(hr:x.run.regs.length=8)(hl:x.run.out.length≤1000)(hok:∀i∈x.run.out,i.ok)(p:Nat):
  Calls Tryz.prog 70 #[.pointer (some ⟨b,0,none⟩),.int .i64 p] w fun e w'=>∃q,e=.returned (.agg (toV q (x.toldOf t p)).toArray)∧Sat ω w' (thX b s t D t.job*(toH q (x.toldOf t p)*(powH*F))):=by
 obtain⟨N,hN⟩:∃N,w.heap.size=N:=⟨_,rfl⟩;obtain⟨BK,hBK⟩:∃BK:HP,BK=bk b 138 (thC s t D t.job):=⟨_,rfl⟩;obtain⟨G,hG⟩:∃G:HP,G=BK*(thT t D*F):=⟨_,rfl⟩;have HB0:Hid (Sat ω (w.alloc (.cells #[.int .i64 0,.int .i64 0,.int .i64 0,.bool false,.int .i64 0,.int .i64 0,.int .u64 0,.int .u64 0,.int .i64 0,.int .i64 0,.slice none 0 0,.slice none 0 0,.slice none 0 0,.string ⟨#[]⟩] 52)) (bk N 52 #[.int .i64 0,.int .i64 0,.int .i64 0,.bool false,.int .i64 0,.int .i64 0,.int .u64 0,.int .u64 0,.int .i64 0,.int .i64 0,.slice none 0 0,.slice none 0 0,.slice none 0 0,.string ⟨#[]⟩]*(atH D.nb s x*(powH*G)))):=h_ (by
  have h1:Sat ω w (atH D.nb s x*(powH*G)):=h.perm (by rw[hG,hBK];unfold thX;rw[hx];show _*(atH D.nb s x*_)*_=_;ac_rfl)
  rw[←hN];exact h1.new _ _)
 obtain⟨X1,hX1⟩:∃X1:HP,X1=bk N 52 #[.int .i64 0,.int .i64 0,.int .i64 0,.bool false,.int .i64 0,.int .i64 0,.int .u64 0,.int .u64 0,.int .i64 0,.int .i64 0,.slice none 0 0,.slice none 0 0,.slice none 0 0,.string ⟨#[]⟩]*(atH D.nb s x*(powH*G)):=⟨_,rfl⟩;rw[←hX1] at HB0;have hA:∀w1 R,Sat ω w1 (R*X1)→Sat ω w1 (atH D.nb s x*(R*(bk N 52 #[.int .i64 0,.int .i64 0,.int .i64 0,.bool false,.int .i64 0,.int .i64 0,.int .u64 0,.int .u64 0,.int .i64 0,.int .i64 0,.slice none 0 0,.slice none 0 0,.slice none 0 0,.string ⟨#[]⟩]*(powH*G)))):=fun w1 R h1=>h1.perm (by rw[hX1];ac_rfl)
 have HTS:Hid (∀w1 R,Sat ω w1 (R*X1)→ToS b (thC s t D t.job) w1):=h_ (fun w1 R h1=>by
  have h2:Sat ω w1 (BK*(bk N 52 #[.int .i64 0,.int .i64 0,.int .i64 0,.bool false,.int .i64 0,.int .i64 0,.int .u64 0,.int .u64 0,.int .i64 0,.int .i64 0,.slice none 0 0,.slice none 0 0,.slice none 0 0,.string ⟨#[]⟩]*(R*(atH D.nb s x*(powH*(thT t D*F)))))):=h1.perm (by rw[hX1,hG];ac_rfl)
  rw[hBK] at h2;exact h2.blk)
 have HTB:Hid (∀w1 R cs,Sat ω w1 (bk N 52 cs*(R*(atH D.nb s x*(powH*G))))→ToS b (thC s t D t.job) w1):=h_ (fun w1 R cs h1=>by
  have h2:Sat ω w1 (BK*(bk N 52 cs*(R*(atH D.nb s x*(powH*(thT t D*F)))))):=h1.perm (by rw[hG];ac_rfl)
  rw[hBK] at h2;exact h2.blk)
 have HCV:Hid (∀w1 R,Sat ω w1 (R*X1)→Sat ω w1 (bk N 52 #[.int .i64 0,.int .i64 0,.int .i64 0,.bool false,.int .i64 0,.int .i64 0,.int .u64 0,.int .u64 0,.int .i64 0,.int .i64 0,.slice none 0 0,.slice none 0 0,.slice none 0 0,.string ⟨#[]⟩]*(R*(atH D.nb s x*(powH*G))))):=h_ (fun w1 R h1=>h1.perm (by rw[hX1];ac_rfl))
 have HBEG:Hid (∀w1,Sat ω w1 X1→Calls Tryz.prog 61 #[.pointer (some ⟨D.nb,0,none⟩)] w1 fun e w'=>e=.returned (.tuple #[.int .u64 x.begin,.bool x.begun])∧Sat ω w' X1):=h_ (fun w1 h1=>by
  refine(at_begin ω w1 _ D.nb s x (hA w1 emp h1.emp_)).mono ?_;rintro e w2 ⟨rfl,q,rfl⟩;exact⟨rfl,h1.drewN q⟩)
 have HEND:Hid (∀w1,Sat ω w1 X1→Calls Tryz.prog 63 #[.pointer (some ⟨D.nb,0,none⟩)] w1 fun e w'=>e=.returned (.int .i64 x.finOf)∧w'=w1):=h_ (fun w1 h1=>at_end ω w1 _ D.nb s x (hA w1 emp h1.emp_))
 have HWR:Hid (∀w1,Sat ω w1 X1→Calls Tryz.prog 108 #[.pointer (some ⟨D.nb,0,none⟩)] w1 fun e w'=>e=.returned (.bool x.writing)∧w'=w1):=h_ (fun w1 h1=>at_writing ω w1 _ D.nb s x (hA w1 emp h1.emp_))
 have HERR:Hid (∀w1,Sat ω w1 X1→Calls Tryz.prog 98 #[.pointer (some ⟨D.nb,0,none⟩)] w1 fun e w'=>e=.returned (.int .i64 x.errOf)∧w'=w1):=h_ (fun w1 h1=>at_err ω w1 _ D.nb s x (hA w1 emp h1.emp_))
 have HSTA:Hid (∀w1,Sat ω w1 X1→Calls Tryz.prog 100 #[.pointer (some ⟨D.nb,0,none⟩)] w1 fun e w'=>e=.returned (.int .u64 x.stamp)∧w'=w1):=h_ (fun w1 h1=>at_stamp ω w1 _ D.nb s x (hA w1 emp h1.emp_))
 have HREA:Hid (∀w1,Sat ω w1 X1→Calls Tryz.prog 109 #[.pointer (some ⟨D.nb,0,none⟩)] w1 fun e w'=>∃A c,e=.returned (.slice A x.v.known.length c)∧Sat ω w' (row 54 2 (.slice A x.v.known.length c) x.v.known.length (vS x.v.known)*X1)):=h_ (fun w1 h1=>by
  refine(at_reads ω w1 _ D.nb s x (hA w1 emp h1.emp_) hv).mono ?_;rintro e w2 ⟨A,c,rfl,h3⟩;exact⟨A,c,rfl,h3.perm (by rw[hX1,emp_star];ac_rfl)⟩)
 have HCEL:Hid (∀w1 R,Sat ω w1 (R*X1)→Calls Tryz.prog 110 #[.pointer (some ⟨D.nb,0,none⟩)] w1 fun e w'=>∃A c,e=.returned (.slice A x.cells.length c)∧Sat ω w' ((R*row 54 2 (.slice A x.cells.length c) x.cells.length (vS x.cells))*X1)):=h_ (fun w1 R h1=>by
  refine(at_cells ω w1 _ D.nb s x (hA w1 R h1) hv).mono ?_;rintro e w2 ⟨A,c,rfl,h3⟩;exact⟨A,c,rfl,h3.perm (by rw[hX1];ac_rfl)⟩)
 have HFRE:Hid (∀w1 R,Sat ω w1 (R*X1)→Calls Tryz.prog 102 #[.pointer (some ⟨D.nb,0,none⟩)] w1 fun e w'=>e=.returned (.slice none 0 0)∧Sat ω w' (R*X1)):=h_ (fun w1 R h1=>by
  refine(at_frees ω w1 _ D.nb s x (hA w1 R h1) hv).mono ?_;rintro e w2 ⟨rfl,h3⟩;exact⟨rfl,h1.nob h3⟩)
 have HSLA:Hid (∀w1 R,Sat ω w1 (R*X1)→Calls Tryz.prog 99 #[.pointer (some ⟨D.nb,0,none⟩)] w1 fun e w'=>e=.returned (.string ⟨x.slate.toArray⟩)∧Sat ω w' (R*X1)):=h_ (fun w1 R h1=>by
  refine(at_slate ω w1 (R*(bk N 52 #[.int .i64 0,.int .i64 0,.int .i64 0,.bool false,.int .i64 0,.int .i64 0,.int .u64 0,.int .u64 0,.int .i64 0,.int .i64 0,.slice none 0 0,.slice none 0 0,.slice none 0 0,.string ⟨#[]⟩]*G)) D.nb s x (h1.perm (by rw[hX1];ac_rfl)) hr hl hok).mono ?_
  rintro e w2 ⟨rfl,h3⟩;exact⟨rfl,h3.perm (by rw[hX1];ac_rfl)⟩)
 obtain⟨kk,hkk⟩:∃kk,(if x.writing then 2 else x.finOf)=kk:=⟨_,rfl⟩
 have HFIN:Hid (∀w1 A1 c1 A2 c2 cs,Sat ω w1 (bk N 52 cs*((row 54 2 (.slice A1 x.v.known.length c1) x.v.known.length (vS x.v.known)*row 54 2 (.slice A2 x.cells.length c2) x.cells.length (vS x.cells))*(atH D.nb s x*(powH*G))))→∃q,(Ending.returned (.agg #[.int .i64 t.me,.int .i64 t.job,.int .i64 t.tries,.bool false,.int .i64 kk,.int .i64 x.errOf,.int .u64 x.begin,.int .u64 x.stamp,.int .i64 t.born,.int .i64 p,.slice A1 x.v.known.length c1,.slice A2 x.cells.length c2,.slice none 0 0,.string ⟨x.slate.toArray⟩]):Ending)=.returned (.agg (toV q (x.toldOf t p)).toArray)∧Sat ω w1 (thX b s t D t.job*(toH q (x.toldOf t p)*(powH*F)))):=h_ (fun w1 A1 c1 A2 c2 cs h1=>by
  refine⟨(.slice A1 x.v.known.length c1,.slice A2 x.cells.length c2),?_,?_⟩
  ·rw[←hkk];rfl
  ·refine h1.right.perm ?_;rw[hG,hBK];unfold thX;rw[hx];show(toH (.slice A1 x.v.known.length c1,.slice A2 x.cells.length c2) (x.toldOf t p))*_=(_*(atH D.nb s x*_))*_
   ac_rfl)
 have HKW:(x.writing=true∧kk=2)∨(x.writing=false∧kk=x.finOf):=by
  cases hw:x.writing
  ·exact .inr ⟨rfl,by rw[←hkk,hw];rfl⟩
  ·exact .inl ⟨rfl,by rw[←hkk,hw];rfl⟩
 generalize x.writing=wr at *
 generalize x.v.known.length=n1 at *
 generalize x.cells.length=n2 at *
 generalize x.slate.toArray=sl at *
 generalize x.finOf=fo at *
 generalize x.errOf=eo at *
 generalize x.begin=bg at *
 generalize x.begun=bn at *
 generalize x.stamp=st at *
 have hb:=thX_blk h;have hnv:nowV D.nb t.now=pV D.nb:=by rw[hx];rfl
 have k16:w.cell? ⟨b,16,none⟩=some (pV D.nb):=by rw[←hnv];exact hb.cell 16
 have kf:=hb.frozen;have kl:=hb.lt;have hbn:b≠N:=by omega
 have klN:b<N:=by omega
 have k16a:(w.alloc (.cells #[.int .i64 0,.int .i64 0,.int .i64 0,.bool false,.int .i64 0,.int .i64 0,.int .u64 0,.int .u64 0,.int .i64 0,.int .i64 0,.slice none 0 0,.slice none 0 0,.slice none 0 0,.string ⟨#[]⟩] 52)).cell? ⟨b,16,none⟩=some (pV D.nb):=by rw[World.cell?_alloc_lt _ _ _ kl];exact k16
 have HK16:Hid (∀w1,ToS b (thC s t D t.job) w1→w1.cell? ⟨b,16,none⟩=some (pV D.nb)):=h_ (fun w1 h1=>by rw[←hnv];exact h1.cell 16)
 clear h hb hA hX1 hG hBK hkk hv hr hl hok hx hnv;rcases HKW with⟨rfl,rfl⟩|⟨rfl,hKf⟩
 ·go_enter Tryz.func70,Tryz.ntmps70;go_wp2_with (first
   |(go_at_call 61;refine(HBEG.o _ HB0.o).mono ?_;rintro e wX ⟨rfl,hs⟩;have HX:=h_ hs;clear hs)
   |(go_at_call 63;refine(HEND.o _ HX.o).mono ?_;rintro e wX ⟨rfl,rfl⟩)
   |(go_at_call 108;refine(HWR.o _ HX.o).mono ?_;rintro e wX ⟨rfl,rfl⟩))
  try rw[hN]
  have HD:Hid (Sat ω wX.drew X1):=h_ (HX.o.drewN 1);have HS0:ToS b (thC s t D t.job) wX.drew:=HTS.o _ emp HD.o.emp_;refine wp_region_noPanic ?_;refine gH (ToS b (thC s t D t.job)) HS0 fun hh0=>?_
  refine tH 0 ?_ rfl ?_ (tH 1 ?_ rfl ?_ (tH 2 ?_ rfl ?_ (tH 3 ?_ rfl ?_ (tH 4 ?_ rfl ?_ (tH 5 ?_ rfl ?_ (tH 6 ?_ rfl ?_ (tH 7 ?_ rfl ?_ (tH 8 ?_ rfl ?_ (tH 9 ?_ rfl ?_ (tH 10 ?_ rfl ?_ (tH 11 ?_ rfl ?_ (tH 12 ?_ rfl ?_ (tH 13 ?_ rfl ?_ (tH 14 ?_ rfl ?_ (tH 15 ?_ rfl ?_ (tH 16 ?_ rfl ?_ (tH 17 ?_ rfl ?_ (tH 18 ?_ rfl ?_ (tH 19 ?_ rfl ?_ (tH 21 ?_ rfl ?_ (tH 22 ?_ rfl ?_ (tH 24 ?_ rfl ?_ (tH 25 ?_ rfl ?_ (tH 26 ?_ rfl ?_ (tH 27 ?_ rfl ?_ (tH 28 ?_ rfl ?_ (tH 29 ?_ rfl ?_ (tH 31 ?_ rfl ?_ (tH 33 ?_ rfl ?_ (tH 35 ?_ rfl ?_ ?_))))))))))))))))))))))))))))));all_goals (try (
   intro w hSw;have jl:=hSw.lt;have jf:=hSw.frozen;have j0:=hSw.c 0;have j10:=hSw.c 10;have j12:=hSw.c 12;have j14:=hSw.c 14;have j17:=hSw.c 17;try simp only[Act.put,sA,sB,sC]
   go_simp<;>(try with_reducible rfl)))
  try simp only[Act.put,sA,sB,sC]
  refine oH 20 rfl fun K hK=>?_
  go_simp;go_at_call 98;refine(HERR.o _ HD.o).mono ?_;rintro e wA ⟨rfl,rfl⟩;first|(refine hK.q ?_ fun hh1=>?_)|(go_wp2_with fail;refine hK.q ?_ fun hh1=>?_)
  ·exact HS0
  clear hK K hh0;try simp only[Act.put,sA,sB,sC]
  refine oH 23 rfl fun K hK=>?_
  go_simp;go_at_call 100;refine(HSTA.o _ HD.o).mono ?_;rintro e wA ⟨rfl,rfl⟩;first|(refine hK.q ?_ fun hh2=>?_)|(go_wp2_with fail;refine hK.q ?_ fun hh2=>?_)
  ·exact HS0
  clear hK K hh1;try simp only[Act.put,sA,sB,sC]
  refine oH 30 rfl fun K hK=>?_
  go_simp;go_at_call 109;refine(HREA.o _ HD.o).mono ?_;rintro e wB ⟨A1,c1,rfl,hs⟩;have HR:=h_ hs;clear hs;first|(refine hK.q ?_ fun hh3=>?_)|(go_wp2_with fail;refine hK.q ?_ fun hh3=>?_)
  ·exact HTS.o _ _ HR.o
  clear hK K hh2;try simp only[Act.put,sA,sB,sC]
  refine oH 32 rfl fun K hK=>?_
  go_simp;go_at_call 110;refine(HCEL.o _ _ HR.o).mono ?_;rintro e wC ⟨A2,c2,rfl,hs⟩;have HC:=h_ hs;clear hs;first|(refine hK.q ?_ fun hh4=>?_)|(go_wp2_with fail;refine hK.q ?_ fun hh4=>?_)
  ·exact HTS.o _ _ HC.o
  clear hK K hh3;try simp only[Act.put,sA,sB,sC]
  refine oH 34 rfl fun K hK=>?_
  go_simp;go_at_call 102;refine(HFRE.o _ _ HC.o).mono ?_;rintro e wD ⟨rfl,hs⟩;have HFr:=h_ hs;clear hs;first|(refine hK.q ?_ fun hh5=>?_)|(go_wp2_with fail;refine hK.q ?_ fun hh5=>?_)
  ·exact HTS.o _ _ HFr.o
  clear hK K hh4;try simp only[Act.put,sA,sB,sC]
  refine oH 36 rfl fun K hK=>?_
  go_simp;go_at_call 99;refine(HSLA.o _ _ HFr.o).mono ?_;rintro e wE ⟨rfl,hs⟩;have HSl:=h_ hs;clear hs;first|(refine hK.q ?_ fun hh6=>?_)|(go_wp2_with fail;refine hK.q ?_ fun hh6=>?_)
  ·exact HTS.o _ _ HSl.o
  clear hK K hh5;try simp only[Act.put,sA,sB,sC]
  refine tH 37 ?_ rfl ?_ ?_;all_goals (try (
   intro w hSw;have jl:=hSw.lt;have jf:=hSw.frozen;have j0:=hSw.c 0;have j10:=hSw.c 10;have j12:=hSw.c 12;have j14:=hSw.c 14;have j17:=hSw.c 17;go_simp<;>(try with_reducible rfl)))
  try simp only[Act.put,sA,sB,sC]
  refine oH 38 rfl fun K hK=>?_
  have hZ:=HCV.o _ _ HSl.o;have hZb:=hZ.blk;have lN:=hZb.lt;have fN:=hZb.frozen;have z0:=hZb.c 0;have z1:=hZb.c 1;have z2:=hZb.c 2;have z3:=hZb.c 3;have z4:=hZb.c 4;have z5:=hZb.c 5;have z6:=hZb.c 6;have z7:=hZb.c 7;have z8:=hZb.c 8;have z9:=hZb.c 9;have z10:=hZb.c 10;have z11:=hZb.c 11;have z12:=hZb.c 12;have z13:=hZb.c 13;have HW:Hid (Sat ω ((((((((((((((wE.setCell ⟨N,0,none⟩ (.int .i64 t.me)).setCell ⟨N,1,none⟩ (.int .i64 t.job)).setCell ⟨N,2,none⟩ (.int .i64 t.tries)).setCell ⟨N,3,none⟩ (.bool false)).setCell ⟨N,4,none⟩ (.int .i64 (2:Int))).setCell ⟨N,5,none⟩ (.int .i64 eo)).setCell ⟨N,6,none⟩ (.int .u64 bg)).setCell ⟨N,7,none⟩ (.int .u64 st)).setCell ⟨N,8,none⟩ (.int .i64 t.born)).setCell ⟨N,9,none⟩ (.int .i64 p)).setCell ⟨N,10,none⟩ (.slice A1 n1 c1)).setCell ⟨N,11,none⟩ (.slice A2 n2 c2)).setCell ⟨N,12,none⟩ (.slice none 0 0)).setCell ⟨N,13,none⟩ (.string ⟨sl⟩)) (bk N 52 #[.int .i64 t.me,.int .i64 t.job,.int .i64 t.tries,.bool false,.int .i64 (2:Int),.int .i64 eo,.int .u64 bg,.int .u64 st,.int .i64 t.born,.int .i64 p,.slice A1 n1 c1,.slice A2 n2 c2,.slice none 0 0,.string ⟨sl⟩]*((row 54 2 (.slice A1 n1 c1) n1 (vS x.v.known)*row 54 2 (.slice A2 n2 c2) n2 (vS x.cells))*(atH D.nb s x*(powH*G))))):=h_ (put14 (.int .i64 t.me) (.int .i64 t.job) (.int .i64 t.tries) (.bool false) (.int .i64 (2:Int)) (.int .i64 eo) (.int .u64 bg) (.int .u64 st) (.int .i64 t.born) (.int .i64 p) (.slice A1 n1 c1) (.slice A2 n2 c2) (.slice none 0 0) (.string ⟨sl⟩) hZ);clear hZb hZ;go_simp;first|(refine hK.q ?_ fun hh7=>?_)|(go_wp2_with fail;refine hK.q ?_ fun hh7=>?_)
  ·exact HTB.o _ _ _ HW.o
  clear hK K hh6;try simp only[Act.put,sA,sB,sC]
  refine dH (NoPanic.normal ?_);go_wp2;have hb:=HW.o.blk;have hq:=HFIN.o _ _ _ _ _ _ HW.o;clear HFIN HTB HTS HBEG HEND HWR HERR HSTA HREA HCEL HFRE HSLA HCV HB0 HW HSl HFr HC HR HD;refine fin70 ?_ hb _ ?_
  ·simp
  ·exact hq
 ·subst hKf;go_enter Tryz.func70,Tryz.ntmps70;go_wp2_with (first
   |(go_at_call 61;refine(HBEG.o _ HB0.o).mono ?_;rintro e wX ⟨rfl,hs⟩;have HX:=h_ hs;clear hs)
   |(go_at_call 63;refine(HEND.o _ HX.o).mono ?_;rintro e wX ⟨rfl,rfl⟩)
   |(go_at_call 108;refine(HWR.o _ HX.o).mono ?_;rintro e wX ⟨rfl,rfl⟩))
  try rw[hN]
  have HD:Hid (Sat ω wX.drew X1):=h_ (HX.o.drewN 1);have HS0:ToS b (thC s t D t.job) wX.drew:=HTS.o _ emp HD.o.emp_;refine wp_region_noPanic ?_;refine gH (ToS b (thC s t D t.job)) HS0 fun hh0=>?_
  refine tH 0 ?_ rfl ?_ (tH 1 ?_ rfl ?_ (tH 2 ?_ rfl ?_ (tH 3 ?_ rfl ?_ (tH 4 ?_ rfl ?_ (tH 5 ?_ rfl ?_ (tH 6 ?_ rfl ?_ (tH 7 ?_ rfl ?_ (tH 8 ?_ rfl ?_ (tH 9 ?_ rfl ?_ (tH 10 ?_ rfl ?_ (tH 11 ?_ rfl ?_ (tH 12 ?_ rfl ?_ (tH 13 ?_ rfl ?_ (tH 14 ?_ rfl ?_ (tH 15 ?_ rfl ?_ (tH 16 ?_ rfl ?_ (tH 17 ?_ rfl ?_ (tH 18 ?_ rfl ?_ (tH 19 ?_ rfl ?_ (tH 21 ?_ rfl ?_ (tH 22 ?_ rfl ?_ (tH 24 ?_ rfl ?_ (tH 25 ?_ rfl ?_ (tH 26 ?_ rfl ?_ (tH 27 ?_ rfl ?_ (tH 28 ?_ rfl ?_ (tH 29 ?_ rfl ?_ (tH 31 ?_ rfl ?_ (tH 33 ?_ rfl ?_ (tH 35 ?_ rfl ?_ ?_))))))))))))))))))))))))))))));all_goals (try (
   intro w hSw;have jl:=hSw.lt;have jf:=hSw.frozen;have j0:=hSw.c 0;have j10:=hSw.c 10;have j12:=hSw.c 12;have j14:=hSw.c 14;have j17:=hSw.c 17;try simp only[Act.put,sA,sB,sC]
   go_simp<;>(try with_reducible rfl)))
  try simp only[Act.put,sA,sB,sC]
  refine oH 20 rfl fun K hK=>?_
  go_simp;go_at_call 98;refine(HERR.o _ HD.o).mono ?_;rintro e wA ⟨rfl,rfl⟩;first|(refine hK.q ?_ fun hh1=>?_)|(go_wp2_with fail;refine hK.q ?_ fun hh1=>?_)
  ·exact HS0
  clear hK K hh0;try simp only[Act.put,sA,sB,sC]
  refine oH 23 rfl fun K hK=>?_
  go_simp;go_at_call 100;refine(HSTA.o _ HD.o).mono ?_;rintro e wA ⟨rfl,rfl⟩;first|(refine hK.q ?_ fun hh2=>?_)|(go_wp2_with fail;refine hK.q ?_ fun hh2=>?_)
  ·exact HS0
  clear hK K hh1;try simp only[Act.put,sA,sB,sC]
  refine oH 30 rfl fun K hK=>?_
  go_simp;go_at_call 109;refine(HREA.o _ HD.o).mono ?_;rintro e wB ⟨A1,c1,rfl,hs⟩;have HR:=h_ hs;clear hs;first|(refine hK.q ?_ fun hh3=>?_)|(go_wp2_with fail;refine hK.q ?_ fun hh3=>?_)
  ·exact HTS.o _ _ HR.o
  clear hK K hh2;try simp only[Act.put,sA,sB,sC]
  refine oH 32 rfl fun K hK=>?_
  go_simp;go_at_call 110;refine(HCEL.o _ _ HR.o).mono ?_;rintro e wC ⟨A2,c2,rfl,hs⟩;have HC:=h_ hs;clear hs;first|(refine hK.q ?_ fun hh4=>?_)|(go_wp2_with fail;refine hK.q ?_ fun hh4=>?_)
  ·exact HTS.o _ _ HC.o
  clear hK K hh3;try simp only[Act.put,sA,sB,sC]
  refine oH 34 rfl fun K hK=>?_
  go_simp;go_at_call 102;refine(HFRE.o _ _ HC.o).mono ?_;rintro e wD ⟨rfl,hs⟩;have HFr:=h_ hs;clear hs;first|(refine hK.q ?_ fun hh5=>?_)|(go_wp2_with fail;refine hK.q ?_ fun hh5=>?_)
  ·exact HTS.o _ _ HFr.o
  clear hK K hh4;try simp only[Act.put,sA,sB,sC]
  refine oH 36 rfl fun K hK=>?_
  go_simp;go_at_call 99;refine(HSLA.o _ _ HFr.o).mono ?_;rintro e wE ⟨rfl,hs⟩;have HSl:=h_ hs;clear hs;first|(refine hK.q ?_ fun hh6=>?_)|(go_wp2_with fail;refine hK.q ?_ fun hh6=>?_)
  ·exact HTS.o _ _ HSl.o
  clear hK K hh5;try simp only[Act.put,sA,sB,sC]
  refine tH 37 ?_ rfl ?_ ?_;all_goals (try (
   intro w hSw;have jl:=hSw.lt;have jf:=hSw.frozen;have j0:=hSw.c 0;have j10:=hSw.c 10;have j12:=hSw.c 12;have j14:=hSw.c 14;have j17:=hSw.c 17;go_simp<;>(try with_reducible rfl)))
  try simp only[Act.put,sA,sB,sC]
  refine oH 38 rfl fun K hK=>?_
  have hZ:=HCV.o _ _ HSl.o;have hZb:=hZ.blk;have lN:=hZb.lt;have fN:=hZb.frozen;have z0:=hZb.c 0;have z1:=hZb.c 1;have z2:=hZb.c 2;have z3:=hZb.c 3;have z4:=hZb.c 4;have z5:=hZb.c 5;have z6:=hZb.c 6;have z7:=hZb.c 7;have z8:=hZb.c 8;have z9:=hZb.c 9;have z10:=hZb.c 10;have z11:=hZb.c 11;have z12:=hZb.c 12;have z13:=hZb.c 13;have HW:Hid (Sat ω ((((((((((((((wE.setCell ⟨N,0,none⟩ (.int .i64 t.me)).setCell ⟨N,1,none⟩ (.int .i64 t.job)).setCell ⟨N,2,none⟩ (.int .i64 t.tries)).setCell ⟨N,3,none⟩ (.bool false)).setCell ⟨N,4,none⟩ (.int .i64 kk)).setCell ⟨N,5,none⟩ (.int .i64 eo)).setCell ⟨N,6,none⟩ (.int .u64 bg)).setCell ⟨N,7,none⟩ (.int .u64 st)).setCell ⟨N,8,none⟩ (.int .i64 t.born)).setCell ⟨N,9,none⟩ (.int .i64 p)).setCell ⟨N,10,none⟩ (.slice A1 n1 c1)).setCell ⟨N,11,none⟩ (.slice A2 n2 c2)).setCell ⟨N,12,none⟩ (.slice none 0 0)).setCell ⟨N,13,none⟩ (.string ⟨sl⟩)) (bk N 52 #[.int .i64 t.me,.int .i64 t.job,.int .i64 t.tries,.bool false,.int .i64 kk,.int .i64 eo,.int .u64 bg,.int .u64 st,.int .i64 t.born,.int .i64 p,.slice A1 n1 c1,.slice A2 n2 c2,.slice none 0 0,.string ⟨sl⟩]*((row 54 2 (.slice A1 n1 c1) n1 (vS x.v.known)*row 54 2 (.slice A2 n2 c2) n2 (vS x.cells))*(atH D.nb s x*(powH*G))))):=h_ (put14 (.int .i64 t.me) (.int .i64 t.job) (.int .i64 t.tries) (.bool false) (.int .i64 kk) (.int .i64 eo) (.int .u64 bg) (.int .u64 st) (.int .i64 t.born) (.int .i64 p) (.slice A1 n1 c1) (.slice A2 n2 c2) (.slice none 0 0) (.string ⟨sl⟩) hZ);clear hZb hZ;go_simp;first|(refine hK.q ?_ fun hh7=>?_)|(go_wp2_with fail;refine hK.q ?_ fun hh7=>?_)
  ·exact HTB.o _ _ _ HW.o
  clear hK K hh6;try simp only[Act.put,sA,sB,sC]
  refine dH (NoPanic.normal ?_);go_wp2;have hb:=HW.o.blk;have hq:=HFIN.o _ _ _ _ _ _ HW.o;clear HFIN HTB HTS HBEG HEND HWR HERR HSTA HREA HCEL HFRE HSLA HCV HB0 HW HSl HFr HC HR HD;refine fin70 ?_ hb _ ?_
  ·simp
  ·exact hq
theorem thX_put {ω w:World}{F:HP}{b:Nat}{s:PSt}{t t':PTh}{D:ThD}{j j':Int}(h:Sat ω w (thX b s t D j*F))(i:Nat)(u:Value)(e:(thC s t D j).setIfInBounds i u=thC s t' D j')(h1:t'.now=t.now)(h2:t'.jobs=t.jobs)(h3:t'.past=t.past)(h4:t'.results=t.results):Sat ω (w.setCell ⟨b,i,none⟩ u) (thX b s t' D j'*F):=by
 have e2:thT t' D=thT t D:=by unfold thT;rw[h2,h3,h4]
 unfold thX at h ⊢;rw[h1,e2];exact(h.assoc.put i u e).assoc'
theorem th_pauseOne (ω w:World)(F:HP)(b:Nat)(s:PSt)(t:PTh)(h:Sat ω w (thH b s t*F))(hs:s.kept)(hf:t.fit)(hp:0≤t.pauses∧t.pauses≤8):
  Calls Tryz.prog 38 #[.pointer (some ⟨b,0,none⟩)] w (Rets ω F (.tuple #[]) (thH b s (t.pauseOne s))):=by
 obtain⟨D,h⟩:=thH_of h;have hb:=thX_blk h;have kf:=hb.frozen;have kl:=hb.lt;obtain⟨st,hst⟩:∃st,t.state=st:=⟨_,rfl⟩;have k11:w.cell? ⟨b,11,none⟩=some (.int .i64 st):=by rw[←hst];exact hb.cell 11
 obtain⟨p,hpp⟩:∃p,t.pauses=p:=⟨_,rfl⟩;have k26:w.cell? ⟨b,26,none⟩=some (.int .i64 p):=by rw[←hpp];exact hb.cell 26
 rw[hpp] at hp;by_cases h3:st=3
 ·have d3:((st:Int) != 3)=false:=by subst h3;rfl
  have HP:Hid (Sat ω (w.setCell ⟨b,26,none⟩ (.int .i64 (p-1))) (thX b s { t with pauses:=p-1 } D t.job*F)):=h_ (thX_put h 26 (.int .i64 (p-1)) rfl rfl rfl rfl rfl)
  have e0:t.pauseOne s=if p-1=0 then({ t with pauses:=p-1 }:PTh).again s else { t with pauses:=p-1 }:=by
   unfold PTh.pauseOne;rw[if_neg (by omega),hpp]
  rw[e0];by_cases h0:p-1=0
  ·rw[if_pos h0];have HA:=h_ (th_again ω _ F b s { t with pauses:=p-1 } D HP.o hs ⟨hf.job,hf.jobs,hf.prog⟩)
   have d0:((p-1:Int)==0)=true:=by rw[h0];rfl
   generalize ({ t with pauses:=p-1 }:PTh).again s=y at *
   clear h hb hs hf hst hpp e0 h3 h0 HP;go_enter Tryz.func38,Tryz.ntmps38;go_wp2_with (go_at_call 60;refine(HA.o).mono ?_;rintro e w1 ⟨rfl,hs⟩;have HZ:=h_ hs;clear hs);first|(go_ret;exact⟨rfl,HZ.o⟩)|exact bodyPost_end (results_none rfl _ _ _) rfl ⟨rfl,HZ.o⟩
  ·rw[if_neg h0];have HZ:=h_ (thH_to HP.o);have d0:((p-1:Int)==0)=false:=by rw[beq_eq_false_iff_ne];exact h0
   clear h hb hs hf hst hpp e0 h3 h0 HP;go_enter Tryz.func38,Tryz.ntmps38;go_wp2;first|(go_ret;exact⟨rfl,HZ.o⟩)|exact bodyPost_end (results_none rfl _ _ _) rfl ⟨rfl,HZ.o⟩
 ·have d3:((st:Int) != 3)=true:=by simp;omega
  have e0:t.pauseOne s=t:=by unfold PTh.pauseOne;rw[if_pos (by omega)]
  rw[e0];have HZ:=h_ (thH_to h);clear h hb hs hf hst hpp e0 h3;go_enter Tryz.func38,Tryz.ntmps38;go_wp2;first|(go_ret;exact⟨rfl,HZ.o⟩)|exact bodyPost_end (results_none rfl _ _ _) rfl ⟨rfl,HZ.o⟩
theorem mostPause_fits:∀n,1≤mostPause n∧mostPause n≤8
 |0=>by simp[mostPause]
 |n+1=>by
  have:=mostPause_fits n
  simp only[mostPause];omega
theorem th_pause (ω w:World)(F:HP)(b:Nat)(s:PSt)(t:PTh)(D:ThD)(h:Sat ω w (thX b s t D t.job*F))(hs:s.kept)(hf:t.fit)(hc:t.conflicts≤1000000)(d:Nat)(hd:d<256):
  Calls Tryz.prog 96 #[.pointer (some ⟨b,0,none⟩),.int .u8 d] w (Rets ω F (.tuple #[]) (thH b s (t.pause s d))):=by
 have hb:=thX_blk h;have kf:=hb.frozen;have kl:=hb.lt;obtain⟨cf,hcf⟩:∃c,t.conflicts=c:=⟨_,rfl⟩;obtain⟨N,hN⟩:∃N,min cf 8=N:=⟨_,rfl⟩;have hNI:min (cf:Int) 8=(N:Int):=by omega
 have hN8:N≤8:=by omega
 have k15:w.cell? ⟨b,15,none⟩=some (.int .i64 cf):=by rw[←hcf];exact hb.cell 15
 have k26:=hb.c 26;have k11:=hb.c 11;obtain⟨p,hp⟩:∃p,d%(mostPause N+1)=p:=⟨_,rfl⟩;have hmp:=mostPause_fits N;have hpl:p<9:=by have:=Nat.mod_lt d (show 0<mostPause N+1 by omega);omega
 have HP:Hid (Sat ω ((w.setCell ⟨b,26,none⟩ (.int .i64 p)).setCell ⟨b,11,none⟩ (.int .i64 3)) (thX b s { t with pauses:=p,state:=3 } D t.job*F)):=h_ (thX_put (t':={ t with pauses:=p,state:=3 }) (thX_put (t':={ t with pauses:=p }) h 26 (.int .i64 p) rfl rfl rfl rfl rfl) 11 (.int .i64 3) rfl rfl rfl rfl rfl)
 have e0:t.pause s d=if p=0 then({ t with pauses:=p,state:=3 }:PTh).again s else { t with pauses:=p,state:=3 }:=by
  unfold PTh.pause;rw[hcf,hN,hp]
 rw[e0];have HT:Hid (p=0→Calls Tryz.prog 60 #[.pointer (some ⟨b,0,none⟩)] ((w.setCell ⟨b,26,none⟩ (.int .i64 p)).setCell ⟨b,11,none⟩ (.int .i64 3)) (Rets ω F (.tuple #[]) (thH b s (({ t with pauses:=p,state:=3 }:PTh).again s)))):=h_ (fun _=>th_again ω _ F b s { t with pauses:=p,state:=3 } D HP.o hs ⟨hf.job,hf.jobs,hf.prog⟩)
 have HZ0:Hid (Sat ω ((w.setCell ⟨b,26,none⟩ (.int .i64 p)).setCell ⟨b,11,none⟩ (.int .i64 3)) (thH b s { t with pauses:=p,state:=3 }*F)):=h_ (thH_to HP.o)
 generalize ({ t with pauses:=p,state:=3 }:PTh).again s=y at *
 generalize ({ t with pauses:=p,state:=3 }:PTh)=z at *
 obtain⟨y0,hy0⟩:∃y0,(if p=0 then y else z)=y0:=⟨_,rfl⟩
 have HY0:=h_ hy0;rw[hy0];clear hy0;have HX:Hid (((d:Int).tmod ((mostPause N:Int)+1))=(p:Int)):=h_ (by rw[←hp,Int.tmod_eq_emod_of_nonneg (by omega)];push_cast;rfl)
 have HS:∀k,mostPause (k+1)=min (2*mostPause k) 8:=fun k=>rfl
 have HNN:=h_ hN;have hd0:0≤(d:Int):=by omega
 clear h hb hs hf hcf e0 HP hN hc;go_enter Tryz.func96,Tryz.ntmps96;go_wp2;go_loopw [4,11] (fun m i wr=>∃k:Nat,k≤N∧i=.int .i64 k∧m=.int .i64 (mostPause k:Int)∧wr=w) (fun _ i _=>N-(intOf i).toNat)
 case atStart=>exact⟨0,by omega,rfl,rfl,rfl⟩
 case round =>
  obtain⟨k,hk,rfl,rfl,rfl⟩:=hrel;by_cases hlt:k<N
  ·have hm:=mostPause_fits k;have e1:min ((2:Int)*(mostPause k:Int)) 8=(mostPause (k+1):Int):=by rw[HS];omega
   generalize mostPause k=m at *
   go_wp2;exact⟨⟨k+1,by omega,by go_num,by first|rfl|(rw[←e1];go_num),by first|rfl|trivial⟩,by simp[intOf];omega⟩
  ·obtain rfl:k=N:=by omega
   generalize mostPause k=m at *
   by_cases h0:p=0
   ·have HA:=h_ (HT.o h0);have hy:y=y0:=by rw[←HY0.o,if_pos h0]
    subst hy;have d0:((p:Int)==0)=true:=by rw[h0];rfl
    have hx:=HX.o;clear h0;go_wp2_with (go_at_call 60;refine(HA.o).mono ?_;rintro e w1 ⟨rfl,hs⟩;have HZ:=h_ hs;clear hs);first|(go_ret;exact⟨rfl,HZ.o⟩)|exact bodyPost_end (results_none rfl _ _ _) rfl ⟨rfl,HZ.o⟩
   ·have hy:z=y0:=by rw[←HY0.o,if_neg h0]
    subst hy;have d0:((p:Int)==0)=false:=by rw[beq_eq_false_iff_ne];omega
    have hx:=HX.o;go_wp2;first|(go_ret;exact⟨rfl,HZ0.o⟩)|exact bodyPost_end (results_none rfl _ _ _) rfl ⟨rfl,HZ0.o⟩
end Go.Proofs.YtfodmgaliclhfaaGreatDoor
