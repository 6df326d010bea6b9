/- Lemmas. -/
import Derived.Test.YtfodmgaliclhfaaGreatDoorGThAgain
import Derived.Test.YtfodmgaliclhfaaGreatDoorGAtNext
namespace Go.Proofs.YtfodmgaliclhfaaGreatDoor
set_option linter.unusedVariables false
set_option linter.unusedSimpArgs false
set_option maxRecDepth 100000
set_option maxHeartbeats 8000000
open Go.RowKit Go.Proofs.Tryz Iq Jq
theorem Cn (ω w:World)(F:HP)(b:Nat)(s:PSt)(t:PTh)(D:ThD)(j:Int)(J:Nat)(hJ:(J:Int)=j+1)(h:Sat ω w (thX b s t D j*F))(hs:s.kept)(hf:({t with job:=J,tries:=0,conflicts:=0}:PTh).fit):
  Calls prog 58 #[.pointer b] w (Rets ω F (.tuple #[]) (thH b s (({t with job:=J,tries:=0,conflicts:=0}:PTh).again s))):=by
 have hb:=AE h;have hj1 : -1≤j:=by omega
 have hj2:j≤6:=by have:=hf.job;have:=hf.jobs;simp only at *;omega
 have HA:Hid (∀w1,w1=(((((w.setCell (κ b 10) (.int .i64 (j+1))).setCell (κ b 12) (.bool false)).setCell (κ b 13) (.slice none 0 0)).setCell (κ b 14) (ι 0)).setCell (κ b 15) (ι 0))→Calls prog 60 #[.pointer b] w1 (Rets ω F (.tuple #[]) (thH b s (({t with job:=J,tries:=0,conflicts:=0}:PTh).again s)))):=h_ (fun w1 hw=>by
  subst hw;refine Bo ω _ F b s ({t with job:=J,tries:=0,conflicts:=0}:PTh) D ?_ hs hf
  have h1:Sat ω w (bk b 138 (thC s t D j)*((nowH s D.nb t.now*thT t D)*F)):=h.assoc;have h2:=((((h1.put 10 (.int .i64 (j+1)) (cs':=thC s t D (j+1)) rfl).put 12 (.bool false) (cs':=thC s t D (j+1)) rfl).put 13 (.slice none 0 0) (cs':=thC s t D (j+1)) rfl).put 14 (ι 0) (cs':=thC s {t with tries:=0} D (j+1)) rfl).put 15 (ι 0) (cs':=thC s {t with tries:=0,conflicts:=0} D (j+1)) rfl
  rw[←hJ] at h2 ⊢;exact h2.assoc')
 have kf:=hb.frozen;have kl:=hb.lt;have k10:=hb.c 10;have k12:=hb.c 12;have k13:=hb.c 13;have k14:=hb.c 14;have k15:=hb.c 15;go_enter func58,ntmps58;go_wp2_with (go_at_call 60;refine(HA.o _ rfl).mono ?_;rintro e w1 ⟨rfl,hs⟩;have HZ:=h_ hs);exact bodyPost_end (results_none rfl _ _ _) rfl ⟨rfl,HZ.o⟩
theorem Oc {ω w:World}{F P:HP}{t:PTh}{D:ThD}(h:Sat ω w (P*(thT t D*F))):Blk w D.lb 188 #[.slice none 0 0]:=by
 have h1:=h.right;unfold thT at h1;have h2:Sat ω w (bk D.lb 188 #[.slice none 0 0]*(thJ t.jobs D*((fact (D.ps.length=t.past.length)*(row 52 14 D.pv t.past.length (toVs D.ps t.past)*toAll D.ps t.past))*(row 66 4 D.rv t.results.length (t.results.flatMap reV)*F)))):=h1.perm (by ac_rfl)
 exact h2.blk
theorem NI (w:World)(l:Nat)(hb:Blk w l 188 #[.slice none 0 0]):
  Calls prog 141 #[.pointer l] w fun e w'=>e=.returned (ι 0)∧w'=w:=by
 have k0:=hb.c 0;have kl:=hb.lt;go_enter func141,ntmps141;go_wp2;go_ret;exact⟨rfl,rfl⟩
theorem NJ (w:World)(l:Nat)(st:Int):
  Calls prog 101 #[.pointer l,υ st,.slice none 0 0] w fun e w'=>e=.returned (.tuple #[])∧w'=w:=by
 go_enter func101,ntmps101;go_wp2;go_loopw [10] (fun i wr=>i=.int .i64 0∧wr=w) (fun _ _=>0)
 case atStart=>exact⟨rfl,rfl⟩
 case round =>
  obtain⟨rfl,rfl⟩:=hrel;go_wp2;exact bodyPost_end (results_none rfl _ _ _) rfl ⟨rfl,rfl⟩
theorem GV (ω w:World)(F:HP)(b:Nat)(s:PSt)(t:PTh)(D:ThD)(h:Sat ω w (thX b s t D t.job*F))(hs:s.kept)(hf:({t with job:=t.job+1,tries:=0,conflicts:=0}:PTh).fit):
  Calls prog 103 #[.pointer b] w (Rets ω F (.tuple #[]) (thH b s (t.following s))):=by
 have HL:=h_ (NI w D.lb (Oc (P:=bk b 138 (thC s t D t.job)*nowH s D.nb t.now) (h.perm (by unfold thX;ac_rfl))))
 have HF:=h_ (Cn ω w F b s t D t.job (t.job+1) (by simp) h hs hf)
 have hb:=AE h;have kf:=hb.frozen;have kl:=hb.lt;have k21:w.cell? (κ b 21)=some (.pointer D.lb):=hb.cell 21;go_enter func103,ntmps103;go_wp2_with (first
  |(go_at_call 141;refine HL.o.mono ?_;rintro e w1 ⟨rfl,rfl⟩)
  |(go_at_call 58;refine HF.o.mono ?_;rintro e w1 ⟨rfl,hs⟩;have HZ:=h_ hs))
 first|(go_ret;exact⟨rfl,HZ.o⟩)|exact bodyPost_end (results_none rfl _ _ _) rfl ⟨rfl,HZ.o⟩
theorem PC {ω w:World}{F:HP}{N:Nat}{t:TypeId}{a0 a1 a2 a3 a4 a5 a6 a7 a8 a9 a10 a11 a12 a13:Value}(v0 v1 v2 v3 v4 v5 v6 v7 v8 v9 v10 v11 v12 v13:Value)(h:Sat ω w (bk N t #[a0,a1,a2,a3,a4,a5,a6,a7,a8,a9,a10,a11,a12,a13]*F)):Sat ω ((((((((((((((w.setCell N v0).setCell (κ N 1) v1).setCell (κ N 2) v2).setCell (κ N 3) v3).setCell (κ N 4) v4).setCell (κ N 5) v5).setCell (κ N 6) v6).setCell (κ N 7) v7).setCell (κ N 8) v8).setCell (κ N 9) v9).setCell (κ N 10) v10).setCell (κ N 11) v11).setCell (κ N 12) v12).setCell (κ N 13) v13) (bk N t #[v0,v1,v2,v3,v4,v5,v6,v7,v8,v9,v10,v11,v12,v13]*F):=by
 have h0:=h.put 0 v0 (cs':=#[v0,a1,a2,a3,a4,a5,a6,a7,a8,a9,a10,a11,a12,a13]) rfl;have h1:=h0.put 1 v1 (cs':=#[v0,v1,a2,a3,a4,a5,a6,a7,a8,a9,a10,a11,a12,a13]) rfl;have h2:=h1.put 2 v2 (cs':=#[v0,v1,v2,a3,a4,a5,a6,a7,a8,a9,a10,a11,a12,a13]) rfl;have h3:=h2.put 3 v3 (cs':=#[v0,v1,v2,v3,a4,a5,a6,a7,a8,a9,a10,a11,a12,a13]) rfl;have h4:=h3.put 4 v4 (cs':=#[v0,v1,v2,v3,v4,a5,a6,a7,a8,a9,a10,a11,a12,a13]) rfl;have h5:=h4.put 5 v5 (cs':=#[v0,v1,v2,v3,v4,v5,a6,a7,a8,a9,a10,a11,a12,a13]) rfl;have h6:=h5.put 6 v6 (cs':=#[v0,v1,v2,v3,v4,v5,v6,a7,a8,a9,a10,a11,a12,a13]) rfl;have h7:=h6.put 7 v7 (cs':=#[v0,v1,v2,v3,v4,v5,v6,v7,a8,a9,a10,a11,a12,a13]) rfl;have h8:=h7.put 8 v8 (cs':=#[v0,v1,v2,v3,v4,v5,v6,v7,v8,a9,a10,a11,a12,a13]) rfl;have h9:=h8.put 9 v9 (cs':=#[v0,v1,v2,v3,v4,v5,v6,v7,v8,v9,a10,a11,a12,a13]) rfl;have h10:=h9.put 10 v10 (cs':=#[v0,v1,v2,v3,v4,v5,v6,v7,v8,v9,v10,a11,a12,a13]) rfl;have h11:=h10.put 11 v11 (cs':=#[v0,v1,v2,v3,v4,v5,v6,v7,v8,v9,v10,v11,a12,a13]) rfl;have h12:=h11.put 12 v12 (cs':=#[v0,v1,v2,v3,v4,v5,v6,v7,v8,v9,v10,v11,v12,a13]) rfl;have h13:=h12.put 13 v13 (cs':=#[v0,v1,v2,v3,v4,v5,v6,v7,v8,v9,v10,v11,v12,v13]) rfl;exact h13
theorem TI {W:World}{p:Nat}{A B C D E G H I J:Int}{A1 A2:Option Addr}{n1 n2 c1 c2:Nat}{S:ByteArray}{tmps:Array Value}(h2:tmps.getD 4 undef=.pointer p)(hb:Blk W p 52 #[A,B,C,.bool false,D,E,υ G,υ H,I,J,.slice A1 n1 c1,.slice A2 n2 c2,.slice none 0 0,.string S])(Q:Ending→World→Prop)(hq:Q (.returned (.agg #[A,B,C,.bool false,D,E,υ G,υ H,I,J,.slice A1 n1 c1,.slice A2 n2 c2,.slice none 0 0,.string S])) W):
  bodyPost prog f70 Q Exit.ret {tmps:=tmps,defers:=[]} W:=by
 have kl:=hb.lt;have m0:=hb.c 0;have m1:=hb.c 1;have m2:=hb.c 2;have m3:=hb.c 3;have m4:=hb.c 4;have m5:=hb.c 5;have m6:=hb.c 6;have m7:=hb.c 7;have m8:=hb.c 8;have m9:=hb.c 9;have m10:=hb.c 10;have m11:=hb.c 11;have m12:=hb.c 12;have m13:=hb.c 13;have h2':tmps[4]?.getD undef=.pointer p:=by simpa using h2
 refine bodyPost_ret (v:=.agg #[A,B,C,.bool false,D,E,υ G,υ H,I,J,.slice A1 n1 c1,.slice A2 n2 c2,.slice none 0 0,.string S]) ?_ rfl hq;simp[results,results70,go_sem,h2',m0,m1,m2,m3,m4,m5,m6,m7,m8,m9,m10,m11,m12,m13]
def ToS (b:Nat)(CS:Array Value)(w:World):Prop:=Blk w b 138 CS
theorem LS [Inhabited PowO](ω w:World)(F:HP)(b:Nat)(s:PSt)(t:PTh)(D:ThD)(x:PAt)(hx:t.now=some x)(h:Sat ω w (thX b s t D t.job*(powH*F)))(hv:x.v.ok)(hr:x.run.regs.length=8)(hl:x.run.out.length≤1000)(hok:∀i∈x.run.out,i.ok)(p:Nat):
  Calls prog 70 #[.pointer b,p] w fun e w'=>∃q,e=.returned (.agg (toV q (x.toldOf t p)).toArray)∧Sat ω w' (thX b s t D t.job*(toH q (x.toldOf t p)*(powH*F))):=by
 obtain⟨N,hN⟩:∃N,w.heap.size=N:=⟨_,rfl⟩;obtain⟨BK,hBK⟩:∃BK:HP,BK=bk b 138 (thC s t D t.job):=⟨_,rfl⟩;obtain⟨G,hG⟩:∃G:HP,G=BK*(thT t D*F):=⟨_,rfl⟩;have HB0:Hid (Sat ω (w.alloc (.cells η 52)) (bk N 52 η*(atH D.nb s x*(powH*G)))):=h_ (by
  have h1:Sat ω w (atH D.nb s x*(powH*G)):=h.perm (by rw[hG,hBK];unfold thX;rw[hx];show _*(atH D.nb s x*_)*_=_;ac_rfl)
  rw[←hN];exact h1.new _ _)
 obtain⟨X1,hX1⟩:∃X1:HP,X1=bk N 52 η*(atH D.nb s x*(powH*G)):=⟨_,rfl⟩;rw[←hX1] at HB0;have hA:∀w1 R,Sat ω w1 (R*X1)→Sat ω w1 (atH D.nb s x*(R*(bk N 52 η*(powH*G)))):=fun w1 R h1=>h1.perm (by rw[hX1];ac_rfl)
 have HTS:Hid (∀w1 R,Sat ω w1 (R*X1)→ToS b (thC s t D t.job) w1):=h_ (fun w1 R h1=>by
  have h2:Sat ω w1 (BK*(bk N 52 η*(R*(atH D.nb s x*(powH*(thT t D*F)))))):=h1.perm (by rw[hX1,hG];ac_rfl)
  rw[hBK] at h2;exact h2.blk)
 have HTB:Hid (∀w1 R cs,Sat ω w1 (bk N 52 cs*(R*(atH D.nb s x*(powH*G))))→ToS b (thC s t D t.job) w1):=h_ (fun w1 R cs h1=>by
  have h2:Sat ω w1 (BK*(bk N 52 cs*(R*(atH D.nb s x*(powH*(thT t D*F)))))):=h1.perm (by rw[hG];ac_rfl)
  rw[hBK] at h2;exact h2.blk)
 have HCV:Hid (∀w1 R,Sat ω w1 (R*X1)→Sat ω w1 (bk N 52 η*(R*(atH D.nb s x*(powH*G))))):=h_ (fun w1 R h1=>h1.perm (by rw[hX1];ac_rfl))
 have HBEG:Hid (∀w1,Sat ω w1 X1→Calls prog 61 #[.pointer D.nb] w1 fun e w'=>e=.returned (.tuple #[υ x.begin,.bool x.begun])∧Sat ω w' X1):=h_ (fun w1 h1=>by
  refine(DI ω w1 _ D.nb s x (hA w1 emp h1.emp_)).mono ?_;rintro e w2 ⟨rfl,q,rfl⟩;exact⟨rfl,h1.drewN q⟩)
 have HEND:Hid (∀w1,Sat ω w1 X1→Calls prog 63 #[.pointer D.nb] w1 fun e w'=>e=.returned x.finOf∧w'=w1):=h_ (fun w1 h1=>He ω w1 _ D.nb s x (hA w1 emp h1.emp_))
 have HWR:Hid (∀w1,Sat ω w1 X1→Calls prog 108 #[.pointer D.nb] w1 fun e w'=>e=.returned (.bool x.writing)∧w'=w1):=h_ (fun w1 h1=>AO ω w1 _ D.nb s x (hA w1 emp h1.emp_))
 have HERR:Hid (∀w1,Sat ω w1 X1→Calls prog 98 #[.pointer D.nb] w1 fun e w'=>e=.returned x.errOf∧w'=w1):=h_ (fun w1 h1=>RK ω w1 _ D.nb s x (hA w1 emp h1.emp_))
 have HSTA:Hid (∀w1,Sat ω w1 X1→Calls prog 100 #[.pointer D.nb] w1 fun e w'=>e=.returned (υ x.stamp)∧w'=w1):=h_ (fun w1 h1=>JL ω w1 _ D.nb s x (hA w1 emp h1.emp_))
 have HREA:Hid (∀w1,Sat ω w1 X1→Calls prog 109 #[.pointer D.nb] w1 fun e w'=>∃A c,e=.returned (.slice A x.v.known.length c)∧Sat ω w' (row 54 2 (.slice A x.v.known.length c) x.v.known.length (vS x.v.known)*X1)):=h_ (fun w1 h1=>by
  refine(Qx ω w1 _ D.nb s x (hA w1 emp h1.emp_) hv).mono ?_;rintro e w2 ⟨A,c,rfl,h3⟩;exact⟨A,c,rfl,h3.perm (by rw[hX1,AD];ac_rfl)⟩)
 have HCEL:Hid (∀w1 R,Sat ω w1 (R*X1)→Calls prog 110 #[.pointer D.nb] w1 fun e w'=>∃A c,e=.returned (.slice A x.cells.length c)∧Sat ω w' ((R*row 54 2 (.slice A x.cells.length c) x.cells.length (vS x.cells))*X1)):=h_ (fun w1 R h1=>by
  refine(RL ω w1 _ D.nb s x (hA w1 R h1) hv).mono ?_;rintro e w2 ⟨A,c,rfl,h3⟩;exact⟨A,c,rfl,h3.perm (by rw[hX1];ac_rfl)⟩)
 have HFRE:Hid (∀w1 R,Sat ω w1 (R*X1)→Calls prog 102 #[.pointer D.nb] w1 fun e w'=>e=.returned (.slice none 0 0)∧Sat ω w' (R*X1)):=h_ (fun w1 R h1=>by
  refine(JP ω w1 _ D.nb s x (hA w1 R h1) hv).mono ?_;rintro e w2 ⟨rfl,h3⟩;exact⟨rfl,h1.nob h3⟩)
 have HSLA:Hid (∀w1 R,Sat ω w1 (R*X1)→Calls prog 99 #[.pointer D.nb] w1 fun e w'=>e=.returned (.string ⟨x.slate.toArray⟩)∧Sat ω w' (R*X1)):=h_ (fun w1 R h1=>by
  refine(JM ω w1 (R*(bk N 52 η*G)) D.nb s x (h1.perm (by rw[hX1];ac_rfl)) hr hl hok).mono ?_
  rintro e w2 ⟨rfl,h3⟩;exact⟨rfl,h3.perm (by rw[hX1];ac_rfl)⟩)
 obtain⟨kk,hkk⟩:∃kk,(if x.writing then 2 else x.finOf)=kk:=⟨_,rfl⟩
 have HFIN:Hid (∀w1 A1 c1 A2 c2 cs,Sat ω w1 (bk N 52 cs*((row 54 2 (.slice A1 x.v.known.length c1) x.v.known.length (vS x.v.known)*row 54 2 (.slice A2 x.cells.length c2) x.cells.length (vS x.cells))*(atH D.nb s x*(powH*G))))→∃q,(Ending.returned (.agg #[t.me,t.job,t.tries,.bool false,kk,x.errOf,υ x.begin,υ x.stamp,t.born,p,.slice A1 x.v.known.length c1,.slice A2 x.cells.length c2,.slice none 0 0,.string ⟨x.slate.toArray⟩]):Ending)=.returned (.agg (toV q (x.toldOf t p)).toArray)∧Sat ω w1 (thX b s t D t.job*(toH q (x.toldOf t p)*(powH*F)))):=h_ (fun w1 A1 c1 A2 c2 cs h1=>by
  refine⟨(.slice A1 x.v.known.length c1,.slice A2 x.cells.length c2),?_,?_⟩
  ·rw[←hkk];rfl
  ·refine h1.right.perm ?_;rw[hG,hBK];unfold thX;rw[hx];show(toH (.slice A1 x.v.known.length c1,.slice A2 x.cells.length c2) (x.toldOf t p))*_=(_*(atH D.nb s x*_))*_
   ac_rfl)
 have HKW:(x.writing=true∧kk=2)∨(x.writing=false∧kk=x.finOf):=by
  cases hw:x.writing
  ·exact .inr ⟨rfl,by rw[←hkk,hw];rfl⟩
  ·exact .inl ⟨rfl,by rw[←hkk,hw];rfl⟩
 generalize x.writing=wr at *
 generalize x.v.known.length=n1 at *
 generalize x.cells.length=n2 at *
 generalize x.slate.toArray=sl at *
 generalize x.finOf=fo at *
 generalize x.errOf=eo at *
 generalize x.begin=bg at *
 generalize x.begun=bn at *
 generalize x.stamp=st at *
 have hb:=AE h;have hnv:nowV D.nb t.now=pV D.nb:=by rw[hx];rfl
 have k16:w.cell? (κ b 16)=some (pV D.nb):=by rw[←hnv];exact hb.cell 16
 have kf:=hb.frozen;have kl:=hb.lt;have hbn:b≠N:=by omega
 have klN:b<N:=by omega
 have k16a:(w.alloc (.cells η 52)).cell? (κ b 16)=some (pV D.nb):=by rw[World.cell?_alloc_lt _ _ _ kl];exact k16
 have HK16:Hid (∀w1,ToS b (thC s t D t.job) w1→w1.cell? (κ b 16)=some (pV D.nb)):=h_ (fun w1 h1=>by rw[←hnv];exact h1.cell 16)
 clear h hb hA hX1 hG hBK hkk hv hr hl hok hx hnv;rcases HKW with⟨rfl,rfl⟩|⟨rfl,hKf⟩
 ·go_enter func70,ntmps70;go_wp2_with (first
   |(go_at_call 61;refine(HBEG.o _ HB0.o).mono ?_;rintro e wX ⟨rfl,hs⟩;have HX:=h_ hs;clear hs)
   |(go_at_call 63;refine(HEND.o _ HX.o).mono ?_;rintro e wX ⟨rfl,rfl⟩)
   |(go_at_call 108;refine(HWR.o _ HX.o).mono ?_;rintro e wX ⟨rfl,rfl⟩))
  try rw[hN]
  have HD:Hid (Sat ω wX.drew X1):=h_ (HX.o.drewN 1);have HS0:ToS b (thC s t D t.job) wX.drew:=HTS.o _ emp HD.o.emp_;refine gN (ToS b (thC s t D t.job)) HS0 fun hh0=>?_
  refine tH 0 ?_ rfl ?_ (tH 1 ?_ rfl ?_ (tH 2 ?_ rfl ?_ (tH 3 ?_ rfl ?_ (tH 4 ?_ rfl ?_ (tH 5 ?_ rfl ?_ (tH 6 ?_ rfl ?_ (tH 7 ?_ rfl ?_ (tH 8 ?_ rfl ?_ (tH 9 ?_ rfl ?_ (tH 10 ?_ rfl ?_ (tH 11 ?_ rfl ?_ (tH 12 ?_ rfl ?_ (tH 13 ?_ rfl ?_ (tH 14 ?_ rfl ?_ (tH 15 ?_ rfl ?_ (tH 16 ?_ rfl ?_ (tH 17 ?_ rfl ?_ (tH 18 ?_ rfl ?_ (tH 19 ?_ rfl ?_ (tH 21 ?_ rfl ?_ (tH 22 ?_ rfl ?_ (tH 24 ?_ rfl ?_ (tH 25 ?_ rfl ?_ (tH 26 ?_ rfl ?_ (tH 27 ?_ rfl ?_ (tH 28 ?_ rfl ?_ (tH 29 ?_ rfl ?_ (tH 31 ?_ rfl ?_ (tH 33 ?_ rfl ?_ (tH 35 ?_ rfl ?_ ?_))))))))))))))))))))))))))))));all_goals (try (
   intro w hSw;have jl:=hSw.lt;have jf:=hSw.frozen;have j0:=hSw.c 0;have j10:=hSw.c 10;have j12:=hSw.c 12;have j14:=hSw.c 14;have j17:=hSw.c 17;try simp only[sP]
   go_simp<;>(try with_reducible rfl)))
  try simp only[sP]
  refine oH 20 rfl fun K hK=>?_
  go_simp;go_at_call 98;refine(HERR.o _ HD.o).mono ?_;rintro e wA ⟨rfl,rfl⟩;(try go_wp2_with fail);refine hK.q ?_ fun hh1=>?_
  ·exact HS0
  clear hK K hh0;try simp only[sP]
  refine oH 23 rfl fun K hK=>?_
  go_simp;go_at_call 100;refine(HSTA.o _ HD.o).mono ?_;rintro e wA ⟨rfl,rfl⟩;(try go_wp2_with fail);refine hK.q ?_ fun hh2=>?_
  ·exact HS0
  clear hK K hh1;try simp only[sP]
  refine oH 30 rfl fun K hK=>?_
  go_simp;go_at_call 109;refine(HREA.o _ HD.o).mono ?_;rintro e wB ⟨A1,c1,rfl,hs⟩;have HR:=h_ hs;clear hs;(try go_wp2_with fail);refine hK.q ?_ fun hh3=>?_
  ·exact HTS.o _ _ HR.o
  clear hK K hh2;try simp only[sP]
  refine oH 32 rfl fun K hK=>?_
  go_simp;go_at_call 110;refine(HCEL.o _ _ HR.o).mono ?_;rintro e wC ⟨A2,c2,rfl,hs⟩;have HC:=h_ hs;clear hs;(try go_wp2_with fail);refine hK.q ?_ fun hh4=>?_
  ·exact HTS.o _ _ HC.o
  clear hK K hh3;try simp only[sP]
  refine oH 34 rfl fun K hK=>?_
  go_simp;go_at_call 102;refine(HFRE.o _ _ HC.o).mono ?_;rintro e wD ⟨rfl,hs⟩;have HFr:=h_ hs;clear hs;(try go_wp2_with fail);refine hK.q ?_ fun hh5=>?_
  ·exact HTS.o _ _ HFr.o
  clear hK K hh4;try simp only[sP]
  refine oH 36 rfl fun K hK=>?_
  go_simp;go_at_call 99;refine(HSLA.o _ _ HFr.o).mono ?_;rintro e wE ⟨rfl,hs⟩;have HSl:=h_ hs;clear hs;(try go_wp2_with fail);refine hK.q ?_ fun hh6=>?_
  ·exact HTS.o _ _ HSl.o
  clear hK K hh5;try simp only[sP]
  refine tH 37 ?_ rfl ?_ ?_;all_goals (try (
   intro w hSw;have jl:=hSw.lt;have jf:=hSw.frozen;have j0:=hSw.c 0;have j10:=hSw.c 10;have j12:=hSw.c 12;have j14:=hSw.c 14;have j17:=hSw.c 17;go_simp<;>(try with_reducible rfl)))
  try simp only[sP]
  refine oH 38 rfl fun K hK=>?_
  have hZ:=HCV.o _ _ HSl.o;have hZb:=hZ.blk;have lN:=hZb.lt;have fN:=hZb.frozen;have z0:=hZb.c 0;have z1:=hZb.c 1;have z2:=hZb.c 2;have z3:=hZb.c 3;have z4:=hZb.c 4;have z5:=hZb.c 5;have z6:=hZb.c 6;have z7:=hZb.c 7;have z8:=hZb.c 8;have z9:=hZb.c 9;have z10:=hZb.c 10;have z11:=hZb.c 11;have z12:=hZb.c 12;have z13:=hZb.c 13;have HW:Hid (Sat ω ((((((((((((((wE.setCell (κ N 0) t.me).setCell (κ N 1) t.job).setCell (κ N 2) t.tries).setCell (κ N 3) (.bool false)).setCell (κ N 4) (.int .i64 (2:Int))).setCell (κ N 5) eo).setCell (κ N 6) (υ bg)).setCell (κ N 7) (υ st)).setCell (κ N 8) t.born).setCell (κ N 9) p).setCell (κ N 10) (.slice A1 n1 c1)).setCell (κ N 11) (.slice A2 n2 c2)).setCell (κ N 12) (.slice none 0 0)).setCell (κ N 13) (.string ⟨sl⟩)) (bk N 52 #[t.me,t.job,t.tries,.bool false,(2:Int),eo,υ bg,υ st,t.born,p,.slice A1 n1 c1,.slice A2 n2 c2,.slice none 0 0,.string ⟨sl⟩]*((row 54 2 (.slice A1 n1 c1) n1 (vS x.v.known)*row 54 2 (.slice A2 n2 c2) n2 (vS x.cells))*(atH D.nb s x*(powH*G))))):=h_ (PC (.int .i64 t.me) (.int .i64 t.job) (.int .i64 t.tries) (.bool false) (.int .i64 (2:Int)) (.int .i64 eo) (.int .u64 bg) (.int .u64 st) (.int .i64 t.born) (.int .i64 p) (.slice A1 n1 c1) (.slice A2 n2 c2) (.slice none 0 0) (.string ⟨sl⟩) hZ);clear hZb hZ;go_simp;(try go_wp2_with fail);refine hK.q ?_ fun hh7=>?_
  ·exact HTB.o _ _ _ HW.o
  clear hK K hh6;try simp only[sP]
  refine dN ?_;go_wp2;have hb:=HW.o.blk;have hq:=HFIN.o _ _ _ _ _ _ HW.o;clear HFIN HTB HTS HBEG HEND HWR HERR HSTA HREA HCEL HFRE HSLA HCV HB0 HW HSl HFr HC HR HD;refine TI ?_ hb _ ?_
  ·simp
  ·exact hq
 ·subst hKf;go_enter func70,ntmps70;go_wp2_with (first
   |(go_at_call 61;refine(HBEG.o _ HB0.o).mono ?_;rintro e wX ⟨rfl,hs⟩;have HX:=h_ hs;clear hs)
   |(go_at_call 63;refine(HEND.o _ HX.o).mono ?_;rintro e wX ⟨rfl,rfl⟩)
   |(go_at_call 108;refine(HWR.o _ HX.o).mono ?_;rintro e wX ⟨rfl,rfl⟩))
  try rw[hN]
  have HD:Hid (Sat ω wX.drew X1):=h_ (HX.o.drewN 1);have HS0:ToS b (thC s t D t.job) wX.drew:=HTS.o _ emp HD.o.emp_;refine gN (ToS b (thC s t D t.job)) HS0 fun hh0=>?_
  refine tH 0 ?_ rfl ?_ (tH 1 ?_ rfl ?_ (tH 2 ?_ rfl ?_ (tH 3 ?_ rfl ?_ (tH 4 ?_ rfl ?_ (tH 5 ?_ rfl ?_ (tH 6 ?_ rfl ?_ (tH 7 ?_ rfl ?_ (tH 8 ?_ rfl ?_ (tH 9 ?_ rfl ?_ (tH 10 ?_ rfl ?_ (tH 11 ?_ rfl ?_ (tH 12 ?_ rfl ?_ (tH 13 ?_ rfl ?_ (tH 14 ?_ rfl ?_ (tH 15 ?_ rfl ?_ (tH 16 ?_ rfl ?_ (tH 17 ?_ rfl ?_ (tH 18 ?_ rfl ?_ (tH 19 ?_ rfl ?_ (tH 21 ?_ rfl ?_ (tH 22 ?_ rfl ?_ (tH 24 ?_ rfl ?_ (tH 25 ?_ rfl ?_ (tH 26 ?_ rfl ?_ (tH 27 ?_ rfl ?_ (tH 28 ?_ rfl ?_ (tH 29 ?_ rfl ?_ (tH 31 ?_ rfl ?_ (tH 33 ?_ rfl ?_ (tH 35 ?_ rfl ?_ ?_))))))))))))))))))))))))))))));all_goals (try (
   intro w hSw;have jl:=hSw.lt;have jf:=hSw.frozen;have j0:=hSw.c 0;have j10:=hSw.c 10;have j12:=hSw.c 12;have j14:=hSw.c 14;have j17:=hSw.c 17;try simp only[sP]
   go_simp<;>(try with_reducible rfl)))
  try simp only[sP]
  refine oH 20 rfl fun K hK=>?_
  go_simp;go_at_call 98;refine(HERR.o _ HD.o).mono ?_;rintro e wA ⟨rfl,rfl⟩;(try go_wp2_with fail);refine hK.q ?_ fun hh1=>?_
  ·exact HS0
  clear hK K hh0;try simp only[sP]
  refine oH 23 rfl fun K hK=>?_
  go_simp;go_at_call 100;refine(HSTA.o _ HD.o).mono ?_;rintro e wA ⟨rfl,rfl⟩;(try go_wp2_with fail);refine hK.q ?_ fun hh2=>?_
  ·exact HS0
  clear hK K hh1;try simp only[sP]
  refine oH 30 rfl fun K hK=>?_
  go_simp;go_at_call 109;refine(HREA.o _ HD.o).mono ?_;rintro e wB ⟨A1,c1,rfl,hs⟩;have HR:=h_ hs;clear hs;(try go_wp2_with fail);refine hK.q ?_ fun hh3=>?_
  ·exact HTS.o _ _ HR.o
  clear hK K hh2;try simp only[sP]
  refine oH 32 rfl fun K hK=>?_
  go_simp;go_at_call 110;refine(HCEL.o _ _ HR.o).mono ?_;rintro e wC ⟨A2,c2,rfl,hs⟩;have HC:=h_ hs;clear hs;(try go_wp2_with fail);refine hK.q ?_ fun hh4=>?_
  ·exact HTS.o _ _ HC.o
  clear hK K hh3;try simp only[sP]
  refine oH 34 rfl fun K hK=>?_
  go_simp;go_at_call 102;refine(HFRE.o _ _ HC.o).mono ?_;rintro e wD ⟨rfl,hs⟩;have HFr:=h_ hs;clear hs;(try go_wp2_with fail);refine hK.q ?_ fun hh5=>?_
  ·exact HTS.o _ _ HFr.o
  clear hK K hh4;try simp only[sP]
  refine oH 36 rfl fun K hK=>?_
  go_simp;go_at_call 99;refine(HSLA.o _ _ HFr.o).mono ?_;rintro e wE ⟨rfl,hs⟩;have HSl:=h_ hs;clear hs;(try go_wp2_with fail);refine hK.q ?_ fun hh6=>?_
  ·exact HTS.o _ _ HSl.o
  clear hK K hh5;try simp only[sP]
  refine tH 37 ?_ rfl ?_ ?_;all_goals (try (
   intro w hSw;have jl:=hSw.lt;have jf:=hSw.frozen;have j0:=hSw.c 0;have j10:=hSw.c 10;have j12:=hSw.c 12;have j14:=hSw.c 14;have j17:=hSw.c 17;go_simp<;>(try with_reducible rfl)))
  try simp only[sP]
  refine oH 38 rfl fun K hK=>?_
  have hZ:=HCV.o _ _ HSl.o;have hZb:=hZ.blk;have lN:=hZb.lt;have fN:=hZb.frozen;have z0:=hZb.c 0;have z1:=hZb.c 1;have z2:=hZb.c 2;have z3:=hZb.c 3;have z4:=hZb.c 4;have z5:=hZb.c 5;have z6:=hZb.c 6;have z7:=hZb.c 7;have z8:=hZb.c 8;have z9:=hZb.c 9;have z10:=hZb.c 10;have z11:=hZb.c 11;have z12:=hZb.c 12;have z13:=hZb.c 13;have HW:Hid (Sat ω ((((((((((((((wE.setCell N t.me).setCell (κ N 1) t.job).setCell (κ N 2) t.tries).setCell (κ N 3) (.bool false)).setCell (κ N 4) kk).setCell (κ N 5) eo).setCell (κ N 6) (υ bg)).setCell (κ N 7) (υ st)).setCell (κ N 8) t.born).setCell (κ N 9) p).setCell (κ N 10) (.slice A1 n1 c1)).setCell (κ N 11) (.slice A2 n2 c2)).setCell (κ N 12) (.slice none 0 0)).setCell (κ N 13) (.string ⟨sl⟩)) (bk N 52 #[t.me,t.job,t.tries,.bool false,kk,eo,υ bg,υ st,t.born,p,.slice A1 n1 c1,.slice A2 n2 c2,.slice none 0 0,.string ⟨sl⟩]*((row 54 2 (.slice A1 n1 c1) n1 (vS x.v.known)*row 54 2 (.slice A2 n2 c2) n2 (vS x.cells))*(atH D.nb s x*(powH*G))))):=h_ (PC (.int .i64 t.me) (.int .i64 t.job) (.int .i64 t.tries) (.bool false) (.int .i64 kk) (.int .i64 eo) (.int .u64 bg) (.int .u64 st) (.int .i64 t.born) (.int .i64 p) (.slice A1 n1 c1) (.slice A2 n2 c2) (.slice none 0 0) (.string ⟨sl⟩) hZ);clear hZb hZ;go_simp;(try go_wp2_with fail);refine hK.q ?_ fun hh7=>?_
  ·exact HTB.o _ _ _ HW.o
  clear hK K hh6;try simp only[sP]
  refine dN ?_;go_wp2;have hb:=HW.o.blk;have hq:=HFIN.o _ _ _ _ _ _ HW.o;clear HFIN HTB HTS HBEG HEND HWR HERR HSTA HREA HCEL HFRE HSLA HCV HB0 HW HSl HFr HC HR HD;refine TI ?_ hb _ ?_
  ·simp
  ·exact hq
theorem Af {ω w:World}{F:HP}{b:Nat}{s:PSt}{t t':PTh}{D:ThD}{j j':Int}(h:Sat ω w (thX b s t D j*F))(i:Nat)(u:Value)(e:(thC s t D j).setIfInBounds i u=thC s t' D j')(h1:t'.now=t.now)(h2:t'.jobs=t.jobs)(h3:t'.past=t.past)(h4:t'.results=t.results):Sat ω (w.setCell (κ b i) u) (thX b s t' D j'*F):=by
 have e2:thT t' D=thT t D:=by unfold thT;rw[h2,h3,h4]
 unfold thX at h ⊢;rw[h1,e2];exact(h.assoc.put i u e).assoc'
theorem Hr (ω w:World)(F:HP)(b:Nat)(s:PSt)(t:PTh)(h:Sat ω w (thH b s t*F))(hs:s.kept)(hf:t.fit)(hp:0≤t.pauses∧t.pauses≤8):
  Calls prog 38 #[.pointer b] w (Rets ω F (.tuple #[]) (thH b s (t.pauseOne s))):=by
 obtain⟨D,h⟩:=Ca h;have hb:=AE h;have kf:=hb.frozen;have kl:=hb.lt;obtain⟨st,hst⟩:∃st,t.state=st:=⟨_,rfl⟩;have k11:w.cell? (κ b 11)=some (.int .i64 st):=by rw[←hst];exact hb.cell 11
 obtain⟨p,hpp⟩:∃p,t.pauses=p:=⟨_,rfl⟩;have k26:w.cell? (κ b 26)=some (.int .i64 p):=by rw[←hpp];exact hb.cell 26
 rw[hpp] at hp;by_cases h3:st=3
 ·have d3:((st:Int) != 3)=false:=by subst h3;rfl
  have HP:Hid (Sat ω (w.setCell (κ b 26) (.int .i64 (p-1))) (thX b s {t with pauses:=p-1} D t.job*F)):=h_ (Af h 26 (.int .i64 (p-1)) rfl rfl rfl rfl rfl)
  have e0:t.pauseOne s=if p-1=0 then({t with pauses:=p-1}:PTh).again s else {t with pauses:=p-1}:=by
   unfold PTh.pauseOne;rw[if_neg (by omega),hpp]
  rw[e0];by_cases h0:p-1=0
  ·rw[if_pos h0];have HA:=h_ (Bo ω _ F b s {t with pauses:=p-1} D HP.o hs ⟨hf.job,hf.jobs,hf.prog⟩)
   have d0:((p-1:Int)==0)=true:=by rw[h0];rfl
   generalize ({t with pauses:=p-1}:PTh).again s=y at *
   clear h hb hs hf hst hpp e0 h3 h0 HP;go_enter func38,ntmps38;go_wp2_with (go_at_call 60;refine(HA.o).mono ?_;rintro e w1 ⟨rfl,hs⟩;have HZ:=h_ hs);first|(go_ret;exact⟨rfl,HZ.o⟩)|exact bodyPost_end (results_none rfl _ _ _) rfl ⟨rfl,HZ.o⟩
  ·rw[if_neg h0];have HZ:=h_ (Ak HP.o);have d0:((p-1:Int)==0)=false:=by rw[beq_eq_false_iff_ne];exact h0
   go_enter func38,ntmps38;go_wp2;first|(go_ret;exact⟨rfl,HZ.o⟩)|exact bodyPost_end (results_none rfl _ _ _) rfl ⟨rfl,HZ.o⟩
 ·have d3:((st:Int) != 3)=true:=by simp;omega
  have e0:t.pauseOne s=t:=by unfold PTh.pauseOne;rw[if_pos (by omega)]
  rw[e0];have HZ:=h_ (Ak h);go_enter func38,ntmps38;go_wp2;first|(go_ret;exact⟨rfl,HZ.o⟩)|exact bodyPost_end (results_none rfl _ _ _) rfl ⟨rfl,HZ.o⟩
theorem BL:∀n,1≤mostPause n∧mostPause n≤8
 |0=>by simp[mostPause]
 |n+1=>by
  have:=BL n
  simp only[mostPause];omega
theorem Hs (ω w:World)(F:HP)(b:Nat)(s:PSt)(t:PTh)(D:ThD)(h:Sat ω w (thX b s t D t.job*F))(hs:s.kept)(hf:t.fit)(hc:t.conflicts≤1000000)(d:Nat)(hd:d<256):
  Calls prog 96 #[.pointer b,.int .u8 d] w (Rets ω F (.tuple #[]) (thH b s (t.pause s d))):=by
 have hb:=AE h;have kf:=hb.frozen;have kl:=hb.lt;obtain⟨cf,hcf⟩:∃c,t.conflicts=c:=⟨_,rfl⟩;obtain⟨N,hN⟩:∃N,min cf 8=N:=⟨_,rfl⟩;have hNI:min (cf:Int) 8=(N:Int):=by omega
 have hN8:N≤8:=by omega
 have k15:w.cell? (κ b 15)=some (.int .i64 cf):=by rw[←hcf];exact hb.cell 15
 have k26:=hb.c 26;have k11:=hb.c 11;obtain⟨p,hp⟩:∃p,d%(mostPause N+1)=p:=⟨_,rfl⟩;have hmp:=BL N;have hpl:p<9:=by have:=Nat.mod_lt d (show 0<mostPause N+1 by omega);omega
 have HP:Hid (Sat ω ((w.setCell (κ b 26) p).setCell (κ b 11) (ι 3)) (thX b s {t with pauses:=p,state:=3} D t.job*F)):=h_ (Af (t':={t with pauses:=p,state:=3}) (Af (t':={t with pauses:=p}) h 26 (.int .i64 p) rfl rfl rfl rfl rfl) 11 (.int .i64 3) rfl rfl rfl rfl rfl)
 have e0:t.pause s d=if p=0 then({t with pauses:=p,state:=3}:PTh).again s else {t with pauses:=p,state:=3}:=by
  unfold PTh.pause;rw[hcf,hN,hp]
 rw[e0];have HT:Hid (p=0→Calls prog 60 #[.pointer b] ((w.setCell (κ b 26) p).setCell (κ b 11) (ι 3)) (Rets ω F (.tuple #[]) (thH b s (({t with pauses:=p,state:=3}:PTh).again s)))):=h_ (fun _=>Bo ω _ F b s {t with pauses:=p,state:=3} D HP.o hs ⟨hf.job,hf.jobs,hf.prog⟩)
 have HZ0:Hid (Sat ω ((w.setCell (κ b 26) p).setCell (κ b 11) (ι 3)) (thH b s {t with pauses:=p,state:=3}*F)):=h_ (Ak HP.o)
 generalize ({t with pauses:=p,state:=3}:PTh).again s=y at *
 generalize ({t with pauses:=p,state:=3}:PTh)=z at *
 obtain⟨y0,hy0⟩:∃y0,(if p=0 then y else z)=y0:=⟨_,rfl⟩
 have HY0:=h_ hy0;rw[hy0];have HX:Hid (((d:Int).tmod ((mostPause N:Int)+1))=(p:Int)):=h_ (by rw[←hp,Int.tmod_eq_emod_of_nonneg (by omega)];push_cast;rfl)
 have HS:∀k,mostPause (k+1)=min (2*mostPause k) 8:=fun k=>rfl
 have HNN:=h_ hN;have hd0:0≤(d:Int):=by omega
 go_enter func96,ntmps96;go_wp2;go_loopw [4,11] (fun m i wr=>∃k:Nat,k≤N∧i=.int .i64 k∧m=.int .i64 (mostPause k:Int)∧wr=w) (fun _ i _=>N-(intOf i).toNat)
 case atStart=>exact⟨0,by omega,rfl,rfl,rfl⟩
 case round =>
  obtain⟨k,hk,rfl,rfl,rfl⟩:=hrel;by_cases hlt:k<N
  ·have hm:=BL k;have e1:min ((2:Int)*(mostPause k:Int)) 8=(mostPause (k+1):Int):=by rw[HS];omega
   generalize mostPause k=m at *
   go_wp2;exact⟨⟨k+1,by omega,by go_num,by first|rfl|(rw[←e1];go_num),by first|rfl|trivial⟩,by simp[intOf];omega⟩
  ·obtain rfl:k=N:=by omega
   generalize mostPause k=m at *
   by_cases h0:p=0
   ·have HA:=h_ (HT.o h0);have hy:y=y0:=by rw[←HY0.o,if_pos h0]
    subst hy;have d0:((p:Int)==0)=true:=by rw[h0];rfl
    have hx:=HX.o;clear h0;go_wp2_with (go_at_call 60;refine(HA.o).mono ?_;rintro e w1 ⟨rfl,hs⟩;have HZ:=h_ hs;clear hs);first|(go_ret;exact⟨rfl,HZ.o⟩)|exact bodyPost_end (results_none rfl _ _ _) rfl ⟨rfl,HZ.o⟩
   ·have hy:z=y0:=by rw[←HY0.o,if_neg h0]
    subst hy;have d0:((p:Int)==0)=false:=by rw[beq_eq_false_iff_ne];omega
    have hx:=HX.o;go_wp2;first|(go_ret;exact⟨rfl,HZ0.o⟩)|exact bodyPost_end (results_none rfl _ _ _) rfl ⟨rfl,HZ0.o⟩
section
namespace Ok
theorem BV (x y:Nat)(l:List Nat):y∈insUp x l↔y=x∨y∈l:=by
 induction l with
 |nil=>simp[insUp]
 |cons z l ih =>
  unfold insUp;split
  ·simp
  ·split
   ·rename_i h;subst h;simp
   ·simp only[List.mem_cons,ih];constructor
    ·rintro(h|h|h)
     ·exact .inr (.inl h)
     ·exact .inl h
     ·exact .inr (.inr h)
    ·rintro(h|h|h)
     ·exact .inr (.inl h)
     ·exact .inl h
     ·exact .inr (.inr h)
theorem Er (x:Nat)(l:List Nat)(h:l.Pairwise (· < ·)):(insUp x l).Pairwise (· < ·):=by
 induction l with
 |nil=>simp[insUp]
 |cons z l ih =>
  obtain⟨h1,h2⟩:=List.pairwise_cons.1 h;unfold insUp;split
  ·rename_i hx;refine List.pairwise_cons.2 ⟨fun y hy=>?_,h⟩
   rcases List.mem_cons.1 hy with rfl|hy
   ·exact hx
   ·have:=h1 y hy;omega
  ·split
   ·exact h
   ·rename_i hx hz;refine List.pairwise_cons.2 ⟨fun y hy=>?_,ih h2⟩
    rcases(BV x y l).1 hy with rfl|hy
    ·omega
    ·exact h1 y hy
theorem NY (x:Nat)(l:List Nat):(insUp x l).length≤l.length+1∧0<(insUp x l).length:=by
 induction l with
 |nil=>simp[insUp]
 |cons z l ih =>
  unfold insUp;split
  ·simp
  ·split
   ·simp
   ·simp;omega
theorem Hx (n wide:Nat)(hn:0<n)(l:List (Nat×Nat)):∀acc:List Nat,acc.Pairwise (· < ·)→(∀k∈acc,k<n) →
  (l.foldl (fun acc c=>insUp (stripeOf c.1 n wide) acc) acc).Pairwise (· < ·)∧(∀k∈l.foldl (fun acc c=>insUp (stripeOf c.1 n wide) acc) acc,k<n) ∧
  (l.foldl (fun acc c=>insUp (stripeOf c.1 n wide) acc) acc).length≤acc.length+l.length∧(0<acc.length+l.length→0<(l.foldl (fun acc c=>insUp (stripeOf c.1 n wide) acc) acc).length):=by
 induction l with
 |nil=>intro acc h h2;exact⟨h,h2,by simp,by simp⟩
 |cons c l ih =>
  intro acc h h2;have h3:=NY (stripeOf c.1 n wide) acc;obtain⟨i1,i2,i3,i4⟩:=ih (insUp (stripeOf c.1 n wide) acc) (Er _ _ h) (fun k hk=>by
   rcases(BV _ _ _).1 hk with rfl|hk
   ·exact Nat.mod_lt _ hn
   ·exact h2 k hk)
  simp only[List.foldl_cons,List.length_cons];exact⟨i1,i2,by omega,fun _=>i4 (by omega)⟩
theorem stripesOf_fine (n wide:Nat)(hn:0<n)(l:List (Nat×Nat))(hl:l≠[]):(stripesOf l n wide).Pairwise (· < ·)∧(∀k∈stripesOf l n wide,k<n)∧(stripesOf l n wide).length≤l.length∧0<(stripesOf l n wide).length:=by
 obtain⟨h1,h2,h3,h4⟩:=Hx n wide hn l [] List.Pairwise.nil (by simp)
 have h3':(stripesOf l n wide).length≤l.length:=by rw[List.length_nil,Nat.zero_add] at h3;exact h3
 exact⟨h1,h2,h3',h4 (by have:=List.length_pos_iff.2 hl;simp;omega)⟩
structure CoSame (c d:PCo):Prop where
 seen:d.seen=c.seen
 stripes:d.stripes=c.stripes
 now:d.now=c.now
section
variable {c d : PCo}
theorem EW (c:PCo):CoSame c c.leave:=by unfold PCo.leave;split<;>exact⟨rfl,rfl,rfl⟩
theorem CC (c:PCo)(f e:Nat)(b:Int):CoSame c (c.stop f e b):=by
 have h:=EW {c with fin:=f,err:=e,by_:=b,at_:=0,state:=7}
 exact⟨h.seen,h.stripes,h.now⟩
theorem Fl (c:PCo):CoSame c c.give:=by unfold PCo.give;split<;>exact⟨rfl,rfl,rfl⟩
theorem EU (c:PCo):CoSame c c.write:=by
 unfold PCo.write;split
 ·have h:=Fl {c with at_:=0,state:=6}
  exact⟨h.seen,h.stripes,h.now⟩
 ·exact⟨rfl,rfl,rfl⟩
theorem EX (c:PCo):CoSame c c.begin:=by
 have h:=EU {c with writing:=true,at_:=0,state:=5}
 exact⟨h.seen,h.stripes,h.now⟩
theorem Dd:∀(n:Nat) (c:PCo),CoSame c (PCo.proveF n c)
 |0,c=>⟨rfl,rfl,rfl⟩
 |n+1,c=>by
  unfold PCo.proveF;split
  ·split
   ·exact⟨rfl,rfl,rfl⟩
   ·split
    ·exact CC _ _ _ _
    ·have h:=Dd n {c with at_:=c.at_+1}
     exact⟨h.seen,h.stripes,h.now⟩
  ·exact EX _
theorem EV (c:PCo):CoSame c c.prove:=by
 have h:=Dd (c.seen.length+1) {c with state:=4}
 exact⟨h.seen,h.stripes,h.now⟩
theorem De (c:PCo)(l:PLk):CoSame c (c.heldBy l):=by
 unfold PCo.heldBy;simp only;split
 ·exact⟨rfl,rfl,rfl⟩
 ·have h:=CC {c with rule:=(c.rule.waits l).2} 5 0 l.own
  exact⟨h.seen,h.stripes,h.now⟩
theorem Hz (c:PCo)(l:PLk):CoSame c (c.proved l):=by
 unfold PCo.proved;split
 ·exact De _ _
 ·split
  ·exact CC _ _ _ _
  ·have h:=EV {c with at_:=c.at_+1}
   exact⟨h.seen,h.stripes,h.now⟩
theorem Fk (c:PCo)(a:PAns):CoSame c (c.take a):=by
 unfold PCo.take;split
 ·exact De _ _
 ·split
  ·exact⟨rfl,rfl,rfl⟩
  ·split
   ·exact⟨rfl,rfl,rfl⟩
   ·exact⟨rfl,rfl,rfl⟩
structure CoNear (c d:PCo):Prop where
 seen:d.seen=c.seen
 stripes:d.stripes=c.stripes
 now:d.now=c.now∨d.now≤4611686018427387903
theorem CoSame.near (h:CoSame c d):CoNear c d:=⟨h.seen,h.stripes,.inl h.now⟩
theorem Eh (c:PCo)(a:PAns):CoNear c (c.raise a):=by
 unfold PCo.raise;split
 ·exact(CC _ _ _ _).near
 ·split
  ·rename_i h1 h2;exact⟨rfl,rfl,.inr (by simp only;omega)⟩
  ·split
   ·exact⟨rfl,rfl,.inl rfl⟩
   ·split
    ·exact(EX _).near
    ·exact(EV _).near
theorem near_tell (c:PCo)(a:PAns):CoNear c (c.tell a):=by
 unfold PCo.tell;simp only;split
 ·exact⟨rfl,rfl,.inl rfl⟩
 ·split
  ·exact(Fk _ _).near
  ·exact(Fk _ _).near
  ·exact Eh _ _
  ·exact Eh _ _
  ·exact(Hz _ _).near
  ·have h:=EU {c with at_:=c.at_+1}
   exact⟨h.seen,h.stripes,.inl h.now⟩
  ·have h:=Fl {c with at_:=c.at_+1}
   exact⟨h.seen,h.stripes,.inl h.now⟩
  ·have h:=EW {c with at_:=c.at_+1}
   exact⟨h.seen,h.stripes,.inl h.now⟩
  ·exact⟨rfl,rfl,.inl rfl⟩
end
end Ok
structure CoFine (c:PCo):Prop where
 set:c.set
 now:c.now≤4611686018427387903
 seen:∀r∈c.seen,r.1<16
 stripes:∀k∈c.stripes,k<16
theorem CoFine.tell {c:PCo}(h:CoFine c)(a:PAns):CoFine (c.tell a):=by
 have h1:=Ok.near_tell c a;exact⟨h.set.tell a,by have:=h1.now;have:=h.now;omega,by rw[h1.seen];exact h.seen,by rw[h1.stripes];exact h.stripes⟩
theorem CoFine.new (me spins stamp:Nat)(seen cells:List (Nat×Nat))(n wide:Nat)(hn:0<n)(hn2:n≤16)(hs:seen.length≤16)(hs2:∀r∈seen,r.1<16)(hc:wFine cells)(hne:cells≠[]):CoFine (PCo.new me spins stamp seen cells n wide):=by
 obtain⟨h1,h2,h3,h4⟩:=Ok.stripesOf_fine n wide hn cells hne;have hlen:=hc.1;have hb:PCo.base ⟨PPat.new me spins,me,stamp,seen,cells,stripesOf cells n wide,[],0,0,PLk.zero,0,false,0,0,0⟩ :=
  ⟨⟨by simp only;omega,by simp only;omega,by simp only;omega,by simp,by simp⟩,by simp,h4,h1,hc.2⟩
 have hw:(PCo.new me spins stamp seen cells n wide).well:=hb.more (by simp)
 refine⟨⟨hw,fun _=>rfl,fun h9=>?_⟩,by show(0:Nat)≤_;omega,hs2,fun k hk=>?_⟩
 ·unfold PCo.new PCo.more at h9;simp only at h9;split at h9<;>omega
 ·have:=h2 k hk
  omega
structure OpFine (o:POp):Prop where
 at_:o.at_≤1000000
 k1:1≤o.kind
 k2:o.kind≤9
 word:o.kind=2→U64 o.word
theorem Ik {l:List Nat}(h:∀k∈l,k<16)(i:Nat):l.getD i 0≤1000000:=by
 rw[gD];cases e:l[i]? with
 |none=>exact Nat.zero_le _
 |some k=>have:=h k (List.mem_of_getElem? e);simp;omega
theorem Fz {l:List (Nat×Nat)}(h:∀r∈l,r.1<16)(i:Nat):(l.getD i (0,0)).1≤1000000:=by
 rw[gD];cases e:l[i]? with
 |none=>exact Nat.zero_le _
 |some k=>have:=h k (List.mem_of_getElem? e);simp;omega
theorem Ng {l:List (Nat×Nat)}(h:∀r∈l,r.1≤1000000∧U64 r.2)(i:Nat):(l.getD i (0,0)).1≤1000000∧U64 (l.getD i (0,0)).2:=by
 rw[gD];cases e:l[i]? with
 |none=>exact⟨Nat.zero_le _,U64.zero⟩
 |some k=>exact h k (List.mem_of_getElem? e)
theorem CoFine.next {c:PCo}(h:CoFine c)(h2:c.next.2=true):OpFine c.next.1:=by
 unfold PCo.next at h2 ⊢;split at h2
 ·cases h2
 ·rename_i h3;rw[if_neg h3];have h7:=h.set.w.ok.state;have e1:=Ik h.stripes c.was.length;have e2:=Ik h.stripes c.at_;have e3:=Fz h.seen c.at_;have e4:=Ng h.set.w.lim c.at_;rcases(by omega:c.state=0∨c.state=1∨c.state=2∨c.state=3∨c.state=4∨c.state=5∨c.state=6∨c.state=7) with k|k|k|k|k|k|k|k
  all_goals simp only[k]
  ·exact⟨e1,by simp[POp.at'],by simp[POp.at'],by simp[POp.at']⟩
  ·exact⟨e1,by simp[POp.at'],by simp[POp.at'],by simp[POp.at']⟩
  ·exact⟨by simp[POp.at'],by simp[POp.at'],by simp[POp.at'],by simp[POp.at']⟩
  ·exact⟨by simp[POp.at'],by simp[POp.at'],by simp[POp.at'],by simp[POp.at']⟩
  ·exact⟨e3,by simp[POp.at'],by simp[POp.at'],by simp[POp.at']⟩
  ·exact⟨e4.1,by simp[POp.at'],by simp[POp.at'],fun _=>e4.2⟩
  ·exact⟨e2,by simp[POp.at'],by simp[POp.at'],by simp[POp.at']⟩
  ·exact⟨e2,by simp[POp.at'],by simp[POp.at'],by simp[POp.at']⟩
structure EeFine (e:PEx):Prop where
 ok:e.ok
 len:e.seen.length≤16
 at_:e.at_≤e.seen.length
 stamp:e.stamp≤4611686018427387904
 seen:∀r∈e.seen,r.1<16
theorem EeFine.rule {e:PEx}(h:EeFine e){r:PPat}(hr:r.fin≠0∨r.fin=e.rule.fin):EeFine {e with rule:=r} :=
 ⟨fun h1 h2=>h.ok (by simp only at h1;omega) h2,h.len,h.at_,h.stamp,h.seen⟩
theorem Fq {e:PEx}(h1:e.seen.length≤16)(h2:e.at_≤e.seen.length)(h3:e.stamp≤4611686018427387904)(h4:∀r∈e.seen,r.1<16):EeFine e.over:=by
 unfold PEx.over;split
 ·exact⟨by intro h;simp[PPat.stop] at h,h1,h2,h3,h4⟩
 ·exact⟨fun _ _=>by omega,h1,h2,h3,h4⟩
theorem EeFine.tell {e:PEx}(h:EeFine e){a:PAns}(ha:e.rule.fin=0→e.loaded=false→a.word≤4611686018427387904):EeFine (e.tell a):=by
 unfold PEx.tell;simp only;by_cases hf:(e.rule.hear a).fin≠0
 ·rw[if_pos hf];exact h.rule (.inl hf)
 rw[if_neg hf];have hf0:e.rule.fin=0:=by
  unfold PPat.hear at hf;split at hf
  ·simp[PPat.stop] at hf
  ·simpa using hf
 by_cases hl:e.loaded=false
 ·rw[if_pos hl];exact Fq (e:={e with loaded:=true,stamp:=a.word}) h.len h.at_ (ha hf0 hl) h.seen
 rw[if_neg hl];have hlt:=h.ok hf0 (by simpa using hl)
 by_cases hh:a.lock.held=true
 ·rw[if_pos hh];split
  ·exact h.rule (.inr (EL _ _))
  ·exact h.rule (.inl (by simp[PPat.stop]))
 rw[if_neg hh];split
 ·exact h.rule (.inl (by simp[PPat.stop]))
 ·exact Fq (e:={e with at_:=e.at_+1}) h.len (by simp only;omega) h.stamp h.seen
theorem EeFine.next {e:PEx}(h:EeFine e)(h2:e.next.2=true):OpFine e.next.1∧e.rule.fin=0∧(e.loaded=false→e.next.1=POp.at' 6 0):=by
 unfold PEx.next at h2 ⊢;split at h2
 ·cases h2
 ·rename_i h3;rw[if_neg h3];refine⟨?_,by simpa using h3,?_⟩
  ·split
   ·exact⟨Fz h.seen e.at_,by simp[POp.at'],by simp[POp.at'],by simp[POp.at']⟩
   ·exact⟨by simp[POp.at'],by simp[POp.at'],by simp[POp.at'],by simp[POp.at']⟩
  ·intro h4;rw[h4];rfl
structure FeFine (f:PFe):Prop where
 word:U64 f.word
 at_:f.at_≤1000000
 stripe:f.stripe≤1000000
theorem FeFine.found {f:PFe}(h:FeFine f)(l:PLk):FeFine (f.found l):=by
 unfold PFe.found;simp only;split
 ·split<;>exact⟨h.word,h.at_,h.stripe⟩
 ·split<;>exact⟨h.word,h.at_,h.stripe⟩
theorem FeFine.tell {f:PFe}(h:FeFine f){a:PAns}(ha:f.rule.fin=0→f.state=1→U64 a.word):FeFine (f.tell a):=by
 unfold PFe.tell;simp only;by_cases hf:(f.rule.hear a).fin≠0
 ·rw[if_pos hf];exact⟨h.word,h.at_,h.stripe⟩
 rw[if_neg hf];have hf0:f.rule.fin=0:=by
  unfold PPat.hear at hf;split at hf
  ·simp[PPat.stop] at hf
  ·simpa using hf
 split
 ·rename_i h1;exact⟨ha hf0 h1,h.at_,h.stripe⟩
 ·split
  ·exact⟨h.word,h.at_,h.stripe⟩
  ·exact h.found _
theorem FeFine.next {f:PFe}(h:FeFine f)(h2:f.next.2=true):OpFine f.next.1∧f.rule.fin=0∧(f.state=1→f.next.1.kind=1):=by
 unfold PFe.next at h2 ⊢;split at h2
 ·cases h2
 ·rename_i h3;rw[if_neg h3];refine⟨?_,by simpa using h3,?_⟩
  ·split
   ·exact⟨h.at_,by simp[POp.at'],by simp[POp.at'],by simp[POp.at']⟩
   ·exact⟨h.stripe,by simp[POp.at'],by simp[POp.at'],by simp[POp.at']⟩
  ·intro h4;rw[if_pos h4];rfl
structure AtCore (x:PAt):Prop where
 it:∃dep,ItFine dep x.run x.v
 fin:Fin4 x.run.fin
 reads:x.reads.length≤16
 seen:∀r∈x.reads,r.1<16
 co:∀c,x.inner=.commit c→CoFine c
 stamp:x.stamp≤4611686018427387904
 me:x.me≤1000
structure AtFine (x:PAt):Prop extends AtCore x where
 st:x.state≤8
 s3:x.state=3→∃f,x.inner=.fetch f∧FeFine f
 s4:x.state=4∨x.state=5→∃e,x.inner=.extend e∧EeFine e
 s6:x.state=6→∃c,x.inner=.commit c
 nc:x.state≤5→∀c,x.inner≠.commit c
structure StFine (s:PSt):Prop where
 s1:1≤s.stripes
 s2:s.stripes≤16
section
variable {x : PAt} {s : PSt}
theorem AtCore.out (h:AtCore x)(f e:Nat)(b:Int):AtFine (x.out f e b) :=
 ⟨⟨h.it,h.fin,h.reads,h.seen,h.co,h.stamp,h.me⟩,by simp[PAt.out],by simp[PAt.out],by simp[PAt.out],by simp[PAt.out],by simp[PAt.out]⟩
theorem AtCore.gone (h:AtCore x)(f e:Nat)(b:Int):AtFine {x.out f e b with state:=8} :=
 ⟨⟨h.it,h.fin,h.reads,h.seen,h.co,h.stamp,h.me⟩,by simp,by simp,by simp,by simp,by simp⟩
theorem AtCore.ask (h:AtCore x)(hs:StFine s){p:Nat}(hp:p≤1000000):AtFine (x.ask s p):=by
 have h1:stripeOf p s.stripes s.wide<s.stripes:=Nat.mod_lt _ hs.s1;have h2:=hs.s2;refine⟨⟨h.it,h.fin,h.reads,h.seen,(by intro c hc;cases hc),h.stamp,h.me⟩,by simp[PAt.ask],fun _=>⟨_,rfl,U64.zero,hp,?_⟩,by simp[PAt.ask],by simp[PAt.ask],(by intro _ c hc;cases hc)⟩
 show stripeOf p s.stripes s.wide≤_
 omega
theorem AtCore.later (h:AtCore x){k:Nat}(hk:k=4∨k=5):AtFine (x.later s k):=by
 refine⟨⟨h.it,h.fin,h.reads,h.seen,(by intro c hc;cases hc),h.stamp,h.me⟩,by simp only[PAt.later];omega,by simp only[PAt.later];omega,fun _=>⟨_,rfl,?_,h.reads,Nat.zero_le _,Nat.zero_le _,h.seen⟩,by simp only[PAt.later];omega,(by intro _ c hc;cases hc)⟩
 intro _ h9;cases h9
theorem AtCore.work (h:AtCore x)(hs:StFine s):AtFine (x.work s):=by
 obtain⟨dep,hi⟩:=h.it;have hr:=DP (x.run.left+1) x.run x.v hi h.fin;unfold PAt.work PIt.run;generalize PIt.runF (x.run.left+1) x.run x.v=R at hr ⊢;obtain⟨k,y,v⟩:=R;obtain⟨hr1,hr2⟩:=hr;have hc:AtCore {x with run:=y,v:=v}:=⟨⟨dep,hr1.it⟩,hr2,h.reads,h.seen,h.co,h.stamp,h.me⟩
 simp only;split
 ·exact hc.ask hs hr1.it.vf.need
 ·exact AtCore.later (x:={x with run:=y,v:=v,blocking:=true}) ⟨hc.it,hc.fin,hc.reads,hc.seen,hc.co,hc.stamp,hc.me⟩ (.inr rfl)
 ·exact hc.out _ _ _
 ·split
  ·exact hc.out _ _ _
  ·rename_i hne;have hco:=CoFine.new x.me s.spins x.stamp x.reads v.logs.cells s.stripes s.wide hs.s1 hs.s2 h.reads h.seen hr1.it.vf.logs.cells hne;exact⟨⟨hc.it,hc.fin,hc.reads,hc.seen,(by intro c h9;cases h9;exact hco),hc.stamp,hc.me⟩,by simp,by simp,by simp,fun _=>⟨_,rfl⟩,by simp⟩
theorem Jw {r:List (Nat×Nat)}(h1:r.length≤16)(h2:∀q∈r,q.1<16)(x:Nat×Nat):(rdAdd r x).2.length≤16∧∀q∈(rdAdd r x).2,q.1<16:=by
 unfold rdAdd;split
 ·exact⟨h1,h2⟩
 ·split
  ·exact⟨h1,h2⟩
  ·split
   ·exact⟨h1,h2⟩
   ·refine⟨by simp;omega,fun q hq=>?_⟩
    simp only[List.mem_append,List.mem_singleton] at hq;rcases hq with hq|rfl
    ·exact h2 q hq
    ·omega
theorem SH {dep:Nat→Nat}{x:PIt}{v:PVw}(h:ItFine dep x v){p y:Nat}(hy:U64 y):ItFine dep x (v.know p y).2:=by
 obtain⟨h1,h2,h3⟩:=h.vf.know (p:=p) hy;exact⟨⟨h.regs,h.lim,h.opens,h.out,h.oks⟩,h.code,h1,h.place,h.left,h.ways,fun e=>by rw[h2];exact h.live e⟩
theorem AtCore.fetched (h:AtCore x)(hs:StFine s){f:PFe}(hf:FeFine f):AtFine (x.fetched s f):=by
 unfold PAt.fetched;split
 ·exact h.later (.inl rfl)
 ·simp only;have hr:=Jw h.reads h.seen (if f.rule.fin=2 then(f.stripe,f.lock.ver) else(0,0))
  generalize rdAdd x.reads (if f.rule.fin=2 then(f.stripe,f.lock.ver) else(0,0))=r at hr ⊢
  have hc:AtCore {x with reads:=r.2}:=⟨h.it,h.fin,hr.1,hr.2,h.co,h.stamp,h.me⟩
  split
  ·obtain⟨dep,hi⟩:=h.it;refine AtCore.work (x:={x with reads:=r.2,v:=_}) ⟨⟨dep,SH hi ?_⟩,hc.fin,hc.reads,hc.seen,hc.co,hc.stamp,hc.me⟩ hs
   split
   ·exact hf.word
   ·exact U64.zero
  ·split
   ·exact hc.out _ _ _
   ·exact hc.out _ _ _
theorem AtFine.ended (h:AtFine x)(hs:StFine s)(hk:3≤x.state∧x.state≤6):AtFine (x.ended s):=by
 rcases(by omega:x.state=3∨(x.state=4∨x.state=5)∨x.state=6) with k|k|k
 ·obtain⟨f,hi,hf⟩:=h.s3 k;unfold PAt.ended;rw[hi];exact h.toAtCore.fetched hs hf
 ·obtain⟨e,hi,he⟩:=h.s4 k;have eE:x.ended s=(if x.state=4 then PAt.ask {x with stamp:=if e.rule.fin=2 then e.stamp else 0} s x.v.need else PAt.out {x with stamp:=if e.rule.fin=2 then e.stamp else 0} 3 0 (-1)):=by
   unfold PAt.ended;rw[hi]
  rw[eE];have hc:AtCore {x with stamp:=if e.rule.fin=2 then e.stamp else 0}:=⟨h.it,h.fin,h.reads,h.seen,h.co,by simp only;have:=he.stamp;split<;>omega,h.me⟩
  split
  ·obtain⟨dep,hit⟩:=h.it;exact hc.ask hs hit.vf.need
  ·exact hc.out _ _ _
 ·obtain⟨c,hi⟩:=h.s6 k;unfold PAt.ended;rw[hi];exact h.toAtCore.out _ _ _
theorem AtFine.stamped (h:AtFine x){k:Nat}(hk:k≤4611686018427387904):AtFine {x with stamp:=k} :=
 ⟨⟨h.it,h.fin,h.reads,h.seen,h.co,hk,h.me⟩,h.st,h.s3,h.s4,h.s6,h.nc⟩
theorem AtFine.told (h:AtFine x)(hs:StFine s)(hk:3≤x.state∧x.state≤6):AtFine (x.told s):=by
 have key:∀y:PAt,AtFine y→AtFine (if y.writing then {y with stamp:=match y.inner with | .commit c=>c.stampOf|_=>0} else y):=fun y hy=>by
  split
  ·refine hy.stamped ?_;split
   ·rename_i c hc
    have:=(hy.co c hc).now
    unfold PCo.stampOf;split<;>omega
   ·omega
  ·exact hy
 unfold PAt.told;refine key _ ?_;split
 ·exact h
 ·split
  ·exact h.toAtCore.out _ _ _
  ·exact h.ended hs hk
structure PMm.good (m:PMm):Prop where
 words:m.words.length≤1000
 locks:m.locks.length≤1000
 since:m.since.length≤1000
 lim:∀v∈m.words,U64 v
 clock:m.clock≤4611686018427387903
theorem QJ {m:PMm}(h:m.good){o:POp}(ho:o.kind=2→U64 o.word):(doM m o).2.good:=by
 unfold doM;split
 ·split<;>exact h
 ·rename_i hk;split
  ·refine⟨by simpa using h.words,h.locks,h.since,fun v hv=>?_,h.clock⟩
   rcases List.mem_or_eq_of_mem_set hv with h1|h1
   ·exact h.lim v h1
   ·rw[h1];exact ho hk
  ·exact h
 ·split<;>exact h
 ·split
  ·split
   ·split
    ·exact⟨h.words,by simpa using h.locks,h.since,h.lim,h.clock⟩
    ·exact h
   ·exact h
  ·exact h
 ·split
  ·split
   ·exact⟨h.words,by simpa using h.locks,h.since,h.lim,h.clock⟩
   ·exact h
  ·exact h
 ·exact h
 ·split
  ·exact h
  ·split
   ·exact h
   ·split
    ·exact⟨h.words,h.locks,h.since,h.lim,by simp only;omega⟩
    ·exact h
 ·split<;>exact h
 ·split
  ·exact⟨h.words,h.locks,by simpa using h.since,h.lim,h.clock⟩
  ·exact h
 ·exact h
theorem QK {m:PMm}(h:m.good){o:POp}(ho:o.kind=2→U64 o.word):(doC m o).2.good:=by
 have h1:=QJ h ho;unfold doC;simp only;split
 ·exact⟨h1.words,h1.locks,h1.since,h1.lim,h1.clock⟩
 ·exact h1
theorem Is {m:PMm}(h:m.good){o:POp}(ho:o.kind=1):U64 (doM m o).1.word:=by
 unfold doM;rw[ho];simp only;split
 ·show U64 (m.words.getD o.at_ 0)
  rw[gD];cases e:m.words[o.at_]? with
  |none=>exact U64.zero
  |some v=>exact h.lim v (List.mem_of_getElem? e)
 ·exact U64.zero
theorem GB {m:PMm}(h:m.good):(doM m (POp.at' 6 0)).1.word≤4611686018427387904:=by
 have:=h.clock
 show m.clock≤_
 omega
theorem AtFine.next (h:AtFine x)(h2:x.next.2=true):OpFine x.next.1:=by
 have h8:=h.st;have hme:=h.me;rcases(by omega:x.state=0∨x.state=1∨x.state=2∨x.state=3∨(x.state=4∨x.state=5)∨x.state=6∨x.state=7∨x.state=8) with k|k|k|k|k|k|k|k
 ·unfold PAt.next;rw[k];exact⟨by simp[POp.at'];omega,by simp[POp.at'],by simp[POp.at'],by simp[POp.at']⟩
 ·unfold PAt.next;rw[k];exact⟨by simp[POp.at'],by simp[POp.at'],by simp[POp.at'],by simp[POp.at']⟩
 ·unfold PAt.next;rw[k];exact⟨by simp[POp.at'];omega,by simp[POp.at'],by simp[POp.at'],by simp[POp.at']⟩
 ·obtain⟨f,hi,hf⟩:=h.s3 k;have e:x.next=f.next:=by unfold PAt.next;rw[k,hi];rfl
  rw[e] at h2 ⊢;exact(hf.next h2).1
 ·obtain⟨f,hi,hf⟩:=h.s4 k;have e:x.next=f.next:=by
   unfold PAt.next;rcases k with k|k<;>rw[k,hi]<;>rfl
  rw[e] at h2 ⊢;exact(hf.next h2).1
 ·obtain⟨f,hi⟩:=h.s6 k;have e:x.next=f.next:=by unfold PAt.next;rw[k,hi];rfl
  rw[e] at h2 ⊢;exact(h.co f hi).next h2
 ·unfold PAt.next;rw[k];exact⟨by simp[POp.at'];omega,by simp[POp.at'],by simp[POp.at'],by simp[POp.at']⟩
 ·unfold PAt.next at h2;rw[k] at h2;cases h2
theorem Ok.tell_eq {a:PAns}{k:Nat}(hk:x.state=k)(h8:k≠8)(ha:a.err=0):x.tell s a=match (generalizing:=false) k with
 |0=>{x with state:=1}
 |1=>{x with begun:=true,begin:=a.word,stamp:=a.word,state:=2}
 |2=>x.work s
 |7=>{x with state:=8}
 |_=>{x with inner:=x.inner.tell a}.told s:=by
 subst hk;unfold PAt.tell;rw[if_neg h8,if_neg (by simp[ha])]
 rfl
theorem AtFine.tell (h:AtFine x)(hs:StFine s){m:PMm}(hm:m.good)(h2:x.next.2=true):AtFine (x.tell s (doM m x.next.1).1):=by
 have h8:=h.st;by_cases k8:x.state=8
 ·unfold PAt.tell;rw[if_pos k8];exact h
 by_cases ha:(doM m x.next.1).1.err≠0
 ·unfold PAt.tell;rw[if_neg k8,if_pos ha];exact h.toAtCore.gone _ _ _
 have ha0:(doM m x.next.1).1.err=0:=by omega
 rcases(by omega:x.state=0∨x.state=1∨x.state=2∨x.state=3∨(x.state=4∨x.state=5)∨x.state=6∨x.state=7) with k|k|k|k|k|k|k
 ·rw[Ok.tell_eq k (by omega) ha0]
  exact⟨⟨h.it,h.fin,h.reads,h.seen,h.co,h.stamp,h.me⟩,by simp,by simp,by simp,by simp,fun _=>h.nc (by omega)⟩
 ·have e:x.next.1=POp.at' 6 0:=by unfold PAt.next;rw[k];rfl
  rw[e] at ha0 ⊢;rw[Ok.tell_eq k (by omega) ha0]
  exact⟨⟨h.it,h.fin,h.reads,h.seen,h.co,GB hm,h.me⟩,by simp,by simp,by simp,by simp,fun _=>h.nc (by omega)⟩
 ·rw[Ok.tell_eq k (by omega) ha0]
  exact h.toAtCore.work hs
 ·obtain⟨f,hi,hf⟩:=h.s3 k;have e:x.next=f.next:=by unfold PAt.next;rw[k,hi];rfl
  rw[e] at h2;obtain⟨q1,q2,q3⟩:=hf.next h2;have hf2:FeFine (f.tell (doM m x.next.1).1):=hf.tell fun _ h1=>by rw[e];exact Is hm (q3 h1)
  generalize (doM m x.next.1).1=a at hf2 ha0 ⊢;have hY:AtFine {x with inner:=.fetch (f.tell a)}:=⟨⟨h.it,h.fin,h.reads,h.seen,(by intro c hc;cases hc),h.stamp,h.me⟩,h.st,fun _=>⟨_,rfl,hf2⟩,fun h9=>by simp only at h9;omega,fun h9=>by simp only at h9;omega,(by intro _ c hc;cases hc)⟩
  rw[Ok.tell_eq k (by omega) ha0,hi]
  exact hY.told hs (by simp only;omega)
 ·obtain⟨f,hi,hf⟩:=h.s4 k;have e:x.next=f.next:=by
   unfold PAt.next;rcases k with k|k<;>rw[k,hi]<;>rfl
  rw[e] at h2;obtain⟨q1,q2,q3⟩:=hf.next h2;have hf2:EeFine (f.tell (doM m x.next.1).1):=hf.tell fun _ h1=>by rw[e,q3 h1];exact GB hm
  generalize (doM m x.next.1).1=a at hf2 ha0 ⊢;have hY:AtFine {x with inner:=.extend (f.tell a)}:=⟨⟨h.it,h.fin,h.reads,h.seen,(by intro c hc;cases hc),h.stamp,h.me⟩,h.st,fun h9=>by simp only at h9;omega,fun _=>⟨_,rfl,hf2⟩,fun h9=>by simp only at h9;omega,(by intro _ c hc;cases hc)⟩
  have hZ:=hY.told hs (by simp only;omega)
  rcases k with k|k
  ·rw[Ok.tell_eq k (by omega) ha0,hi];exact hZ
  ·rw[Ok.tell_eq k (by omega) ha0,hi];exact hZ
 ·obtain⟨f,hi⟩:=h.s6 k;have hf2:CoFine (f.tell (doM m x.next.1).1):=(h.co f hi).tell _;generalize (doM m x.next.1).1=a at hf2 ha0 ⊢;have hY:AtFine {x with inner:=.commit (f.tell a)}:=⟨⟨h.it,h.fin,h.reads,h.seen,(by intro c hc;cases hc;exact hf2),h.stamp,h.me⟩,h.st,fun h9=>by simp only at h9;omega,fun h9=>by simp only at h9;omega,fun _=>⟨_,rfl⟩,fun h9=>by simp only at h9;omega⟩
  rw[Ok.tell_eq k (by omega) ha0,hi]
  exact hY.told hs (by simp only;omega)
 ·rw[Ok.tell_eq k (by omega) ha0]
  exact⟨⟨h.it,h.fin,h.reads,h.seen,h.co,h.stamp,h.me⟩,by simp,by simp,by simp,by simp,by simp⟩
theorem AtFine.tell_word (h:AtFine x){m:PMm}(hm:m.good)(h2:x.next.2=true)(k:x.state=3)(f:PFe)(hi:x.inner=.fetch f):U64 (f.tell (doM m x.next.1).1).word:=by
 obtain⟨g,hg,hf⟩:=h.s3 k;have e0:f=g:=by rw[hi] at hg;injection hg
 subst e0;have e:x.next=f.next:=by unfold PAt.next;rw[k,hi];rfl
 rw[e] at h2;obtain⟨q1,q2,q3⟩:=hf.next h2;exact(hf.tell fun _ h1=>by rw[e];exact Is hm (q3 h1)).word
end
end
section
structure JobFine (p:List PIns):Prop where
 ok:okP p=true
 code:∃dep,CodeFine dep p
structure ThBase (K:Nat) (t:PTh):Prop where
 me:t.me≤1000
 jobs:t.jobs.length≤6
 prog:∀p∈t.jobs,JobFine p
 job:t.job≤t.jobs.length
 by_:t.by_≤1000
 tries:t.tries≤K
 confl:t.conflicts≤K
 past:t.past.length≤K
 res:t.results.length≤K
 pz:0≤t.pauses∧t.pauses≤8
 now:∀x,t.now=some x→AtFine x
structure ThFine (K:Nat) (t:PTh):Prop extends ThBase K t where
 st:t.state=1∨t.state=2∨t.state=3∨t.state=4∨t.state=6
 jlt:t.state≠6→t.job<t.jobs.length
 some_:t.state=1→∃x,t.now=some x
 pp:t.state=3→1≤t.pauses
 born:t.born≤K
section
variable {s : PSt} {K L : Nat} {t : PTh}
theorem ThBase.up (h:ThBase K t)(hk:K≤L):ThBase L t:=⟨h.me,h.jobs,h.prog,h.job,h.by_,Nat.le_trans h.tries hk,Nat.le_trans h.confl hk,Nat.le_trans h.past hk,Nat.le_trans h.res hk,h.pz,h.now⟩
theorem ThFine.up (h:ThFine K t)(hk:K≤L):ThFine L t:=⟨h.toThBase.up hk,h.st,h.jlt,h.some_,h.pp,Nat.le_trans h.born hk⟩
theorem PL {p:List PIns}(hp:JobFine p)(me:Nat)(hme:me≤1000)(s:PSt):AtFine (PAt.new me s p):=by
 obtain⟨dep,hc⟩:=hp.code;have hlog:(PLv.new s.writes).fine:=⟨by simp[PLv.new],by simp[PLv.new],by simp only[PLv.new];omega,fun r hr=>by
  simp only[PLv.new,List.mem_singleton] at hr;subst hr;exact wFine.nil⟩
 have hvw:(PVw.new s.words s.writes).fine:=by
  refine⟨hlog,by simp[PVw.new];omega,?_,by simp[PVw.new],fun k y hk=>?_,by simp[PVw.new]⟩
  ·simp only[PVw.new,List.length_nil]
   symm
   rw[List.countP_eq_zero];intro a ha;rw[(List.mem_replicate.1 ha).2];simp
  ·simp only[PVw.new] at hk;rw[gD,List.getElem?_replicate] at hk;split at hk<;>simp at hk
 refine⟨⟨⟨dep,⟨⟨by simp[PAt.new,PIt.new],?_,⟨by simp[PAt.new,PIt.new],List.Pairwise.nil⟩,by simp[PAt.new,PIt.new],by simp[PAt.new,PIt.new]⟩,hc,hvw,Nat.zero_le _,by simp only[PAt.new,PIt.new];omega,(fun j p e=>by simp[PAt.new,PIt.new] at e),fun _=>⟨rfl,hc.zero.symm⟩⟩⟩,.inl rfl,by simp[PAt.new],by simp[PAt.new],(by intro c h9;cases h9),by simp[PAt.new],hme⟩,by simp[PAt.new],by simp[PAt.new],by simp[PAt.new],by simp[PAt.new],(by intro _ c h9;cases h9)⟩
 intro r hr;simp only[PAt.new,PIt.new] at hr;rw[(List.mem_replicate.1 hr).2];exact U64.zero
theorem ThBase.again (h:ThBase K t)(s:PSt):ThFine K (t.again s):=by
 unfold PTh.again;simp only;split
 ·exact⟨⟨h.me,h.jobs,h.prog,h.job,h.by_,h.tries,h.confl,h.past,h.res,h.pz,by intro x hx;cases hx⟩,by simp,by simp,by simp,by simp,Nat.zero_le _⟩
 ·rename_i hj;have hlt:t.job<t.jobs.length:=Nat.lt_of_le_of_ne h.job hj;have hp:JobFine (t.jobs.getD t.job []):=h.prog _ (by rw[gD,List.getElem?_eq_getElem hlt];exact List.getElem_mem _)
  exact⟨⟨h.me,h.jobs,h.prog,h.job,h.by_,h.tries,h.confl,h.past,h.res,h.pz,by intro x hx;cases hx;exact PL hp _ h.me s⟩,by simp,fun _=>hlt,fun _=>⟨_,rfl⟩,by simp,Nat.zero_le _⟩
theorem Ct:∀n,1≤mostPause n∧mostPause n≤8
 |0=>by simp[mostPause]
 |n+1=>by
  have:=Ct n
  simp only[mostPause];omega
theorem ThBase.pause (h:ThBase K t)(hlt:t.job<t.jobs.length)(hb:t.born≤K)(s:PSt)(d:Nat):ThFine K (t.pause s d):=by
 have hm:=Ct (min t.conflicts 8);have hd:d%(mostPause (min t.conflicts 8)+1)<mostPause (min t.conflicts 8)+1:=Nat.mod_lt _ (by omega)
 unfold PTh.pause;simp only;split
 ·exact ThBase.again (t:={t with pauses:=_,state:=3}) ⟨h.me,h.jobs,h.prog,h.job,h.by_,h.tries,h.confl,h.past,h.res,by simp only;omega,h.now⟩ s
 ·exact⟨⟨h.me,h.jobs,h.prog,h.job,h.by_,h.tries,h.confl,h.past,h.res,by simp only;omega,h.now⟩,by simp,fun _=>hlt,by simp,fun _=>by simp only;omega,hb⟩
theorem ThBase.following (h:ThBase K t)(hlt:t.job<t.jobs.length)(s:PSt):ThFine K (t.following s):=by
 unfold PTh.following;exact ThBase.again (t:={t with job:=t.job+1,tries:=0,conflicts:=0}) ⟨h.me,h.jobs,h.prog,hlt,h.by_,Nat.zero_le _,Nat.zero_le _,h.past,h.res,h.pz,h.now⟩ s
theorem ThBase.ended (h:ThBase K t)(hlt:t.job<t.jobs.length)(hb:t.born≤K+1)(hs:s.threads≤1000)(x:PAt)(d p:Nat):ThFine (K+1) (t.ended s x d p):=by
 have h1:ThBase (K+1) {t with past:=t.past++[x.toldOf t p],tries:=t.tries+1}:=⟨h.me,h.jobs,h.prog,h.job,h.by_,by have:=h.tries;simp only;omega,by have:=h.confl;simp only;omega,by have:=h.past;simp;omega,by have:=h.res;simp only;omega,h.pz,h.now⟩
 unfold PTh.ended;simp only;split
 ·have h2:ThBase (K+1) {t with past:=t.past++[x.toldOf t p],tries:=t.tries+1,conflicts:=t.conflicts+1}:=⟨h1.me,h1.jobs,h1.prog,h1.job,h1.by_,h1.tries,by have:=h.confl;simp only;omega,h1.past,h1.res,h1.pz,h1.now⟩
  split
  ·exact⟨⟨h2.me,h2.jobs,h2.prog,h2.job,by simp only;omega,h2.tries,h2.confl,h2.past,h2.res,h2.pz,h2.now⟩,by simp,fun _=>hlt,by simp,by simp,hb⟩
  ·exact h2.pause hlt hb s d
 ·split
  ·split
   ·exact h1.again s
   ·exact⟨⟨h1.me,h1.jobs,h1.prog,h1.job,h1.by_,h1.tries,h1.confl,h1.past,h1.res,h1.pz,h1.now⟩,by simp,fun _=>hlt,by simp,by simp,hb⟩
  ·exact ThBase.following (t:={t with past:=t.past++[x.toldOf t p],tries:=t.tries+1,results:=t.results++[(⟨x.finOf,x.errOf,x.slate,x.stamp⟩:PRe)]}) ⟨h1.me,h1.jobs,h1.prog,h1.job,h1.by_,h1.tries,h1.confl,h1.past,by have:=h.res;simp;omega,h1.pz,h1.now⟩ hlt s
theorem ThFine.yield_ (h:ThFine K t)(h2:t.state=2)(s:PSt)(a:PAns)(d:Nat):ThFine K (t.yield_ s a d):=by
 unfold PTh.yield_;split
 ·exact⟨⟨h.me,h.jobs,h.prog,h.job,h.by_,h.tries,h.confl,h.past,h.res,h.pz,h.now⟩,h.st,h.jlt,h.some_,h.pp,h.born⟩
 ·exact h.toThBase.pause (h.jlt (by omega)) h.born s d
theorem ThFine.pauseOne (h:ThFine K t)(s:PSt):ThFine K (t.pauseOne s):=by
 unfold PTh.pauseOne;split
 ·exact h
 ·rename_i h3;have h3:t.state=3:=by simpa using h3
  have h4:=h.pp h3;have h5:=h.pz;have h6:ThBase K {t with pauses:=t.pauses-1}:=⟨h.me,h.jobs,h.prog,h.job,h.by_,h.tries,h.confl,h.past,h.res,by simp only;omega,h.now⟩
  simp only;split
  ·exact h6.again s
  ·rename_i h7;exact⟨h6,h.st,h.jlt,h.some_,fun _=>by simp only;omega,h.born⟩
theorem ThFine.wake (h:ThFine K t)(s:PSt)(k v:Nat):ThFine K (t.wake s k v):=by
 unfold PTh.wake;split
 ·exact h
 ·split
  ·split
   ·exact h.toThBase.again s
   ·split
    ·exact⟨⟨h.me,h.jobs,h.prog,h.job,h.by_,h.tries,h.confl,h.past,h.res,h.pz,h.now⟩,h.st,h.jlt,h.some_,h.pp,h.born⟩
    ·exact h
  ·exact h
theorem ThFine.next (h:ThFine K t)(h2:t.next.2=true):OpFine t.next.1:=by
 rcases h.st with k|k|k|k|k
 ·obtain⟨x,hx⟩:=h.some_ k;have e:t.next=x.next:=by unfold PTh.next;rw[k,hx];rfl
  rw[e] at h2 ⊢;exact(h.now x hx).next h2
 ·have e:t.next=(POp.at' 8 t.by_,true):=by unfold PTh.next;rw[k];rfl
  rw[e];exact⟨Nat.le_trans h.by_ (by omega),by simp[POp.at'],by simp[POp.at'],by simp[POp.at']⟩
 all_goals
  have e:t.next=(POp.zero,false):=by unfold PTh.next;rw[k];rfl
  rw[e] at h2;cases h2
theorem ThFine.tell (h:ThFine K t)(hs:StFine s)(ht:s.threads≤1000){m:PMm}(hm:m.good)(h2:t.next.2=true)(d p:Nat)(hp:p≤K+1):ThFine (K+1) (t.tell s (doM m t.next.1).1 d p):=by
 rcases h.st with k|k|k|k|k
 ·obtain⟨x,hx⟩:=h.some_ k;have e:t.next=x.next:=by unfold PTh.next;rw[k,hx];rfl
  rw[e] at h2 ⊢;have hy:=(h.now x hx).tell hs hm h2;generalize (doM m x.next.1).1=a at hy ⊢;have eT:t.tell s a d p=(if(x.tell s a).finOf≠0 then PTh.ended {t with now:=some (x.tell s a),born:=if((x.tell s a).begun&&!x.begun)=true then p else t.born} s (x.tell s a) d p else {t with now:=some (x.tell s a),born:=if((x.tell s a).begun&&!x.begun)=true then p else t.born}):=by
   unfold PTh.tell;simp only[k,hx]
  rw[eT];generalize x.tell s a=y at hy ⊢;have hbn:(if(y.begun&&!x.begun)=true then p else t.born)≤K+1:=by
   have:=h.born
   split<;>omega
  have hb:ThBase K {t with now:=some y,born:=if(y.begun&&!x.begun)=true then p else t.born}:=⟨h.me,h.jobs,h.prog,h.job,h.by_,h.tries,h.confl,h.past,h.res,h.pz,by intro z hz;cases hz;exact hy⟩
  split
  ·exact hb.ended (h.jlt (by omega)) hbn ht y d p
  ·exact⟨hb.up (Nat.le_succ K),by simp[k],fun _=>h.jlt (by omega),fun _=>⟨y,rfl⟩,by simp only;omega,hbn⟩
 ·have e:t.tell s (doM m t.next.1).1 d p=t.yield_ s (doM m t.next.1).1 d:=by unfold PTh.tell;rw[k];rfl
  rw[e];exact(h.yield_ k s _ d).up (Nat.le_succ K)
 all_goals
  have e:t.next=(POp.zero,false):=by unfold PTh.next;rw[k];rfl
  rw[e] at h2;cases h2
end
theorem BW (s:PSt):StFine s.held∧s.held.threads≤4:=⟨⟨by simp only[PSt.held];omega,by simp only[PSt.held];omega⟩,by simp only[PSt.held];omega⟩
structure McFine (M:PMc):Prop where
 set:∃s:PSt,M.s=s.held
 mem:M.mem.good
 thr:∀i t,M.thr[i]?=some t→ThFine M.picks t∧t.me=i
 len:M.thr.length=M.s.threads
section
variable {M : PMc}
theorem IK (t:PTh)(s:PSt):(t.pauseOne s).me=t.me:=by
 unfold PTh.pauseOne PTh.again;split
 ·rfl
 ·simp only;split
  ·split<;>rfl
  ·rfl
theorem CA (t:PTh)(s:PSt):(t.again s).me=t.me:=by
 unfold PTh.again;simp only;split<;>rfl
theorem II (t:PTh)(s:PSt)(d:Nat):(t.pause s d).me=t.me:=by
 unfold PTh.pause;simp only;split
 ·rw[CA]
 ·rfl
theorem RW (t:PTh)(s:PSt)(k v:Nat):(t.wake s k v).me=t.me:=by
 unfold PTh.wake;split
 ·rfl
 ·split
  ·split
   ·rw[CA]
   ·split<;>rfl
  ·rfl
theorem QG (t:PTh)(s:PSt)(x:PAt)(d p:Nat):(t.ended s x d p).me=t.me:=by
 unfold PTh.ended;simp only;split
 ·split
  ·rfl
  ·rw[II]
 ·split
  ·split
   ·rw[CA]
   ·rfl
  ·unfold PTh.following;rw[CA]
theorem Rj (t:PTh)(s:PSt)(a:PAns)(d p:Nat):(t.tell s a d p).me=t.me:=by
 unfold PTh.tell;split
 ·split
  ·rfl
  ·simp only;split
   ·rw[QG]
   ·rfl
 ·unfold PTh.yield_;split
  ·rfl
  ·rw[II]
 ·rfl
theorem McFine.pick (h:McFine M)(i d:Nat):McFine (M.pick i d):=by
 obtain⟨s0,hs0⟩:=h.set;obtain⟨f1,f2⟩:=BW s0;rw[←hs0] at f1 f2;unfold PMc.pick;cases ht:M.thr[i]? with
 |none=>exact h
 |some t =>
  have hlt:i<M.thr.length:=(List.getElem?_eq_some_iff.1 ht).1;obtain⟨hth,hme⟩:=h.thr i t ht;have put:∀u,ThFine (M.picks+1) u→u.me=i→∀k v,(M.thr.set i u)[k]?=some v→ThFine (M.picks+1) v∧v.me=k:=fun u hu hum k v hv=>by
   by_cases e:k=i
   ·subst e;rw[List.getElem?_set_self hlt] at hv;obtain rfl:=Option.some.inj hv;exact⟨hu,hum⟩
   ·rw[List.getElem?_set_ne (Ne.symm e)] at hv;exact⟨(h.thr k v hv).1.up (by omega),(h.thr k v hv).2⟩
  simp only;by_cases hd:t.next.2=false
  ·rw[if_pos hd];exact⟨⟨s0,hs0⟩,h.mem,put _ ((hth.pauseOne M.s).up (by omega)) (by rw[IK];exact hme),by simpa using h.len⟩
  rw[if_neg hd];have hd':t.next.2=true:=by simpa using hd
  have hop:=hth.next hd';have hmem:=QK h.mem hop.word;have hte:ThFine (M.picks+1) (t.tell M.s (doC M.mem t.next.1).1 d (M.picks+1)):=hth.tell f1 (by omega) h.mem hd' d _ (Nat.le_refl _)
  have hput:=put _ hte (by rw[Rj];exact hme)
  split
  ·exact⟨⟨s0,hs0⟩,hmem,hput,by simpa using h.len⟩
  ·refine⟨⟨s0,hs0⟩,hmem,fun k v hv=>?_,by simpa using h.len⟩
   simp only[List.getElem?_mapIdx,Option.map_eq_some_iff] at hv;obtain⟨o,ho,rfl⟩:=hv;obtain⟨q1,q2⟩:=hput k o ho;split
   ·exact⟨q1,q2⟩
   ·exact⟨q1.wake _ _ _,by rw[RW];exact q2⟩
theorem McFine.new (s:PSt)(jobs:List (List (List PIns)))(hj:∀l∈jobs,∀p∈l,JobFine p):McFine (PMc.new s jobs):=by
 have hth:∀i,i≤1000→∀s' l,(∀p∈l,JobFine p)→ThFine 0 (PTh.new i s' l)∧(PTh.new i s' l).me=i:=fun i hi s' l hl=>by
  have h0:ThBase 0 {me:=i,jobs:=l.take 6,job:=0,state:=0,tries:=0,conflicts:=0,now:=none,born:=0,alarmed:=false,past:=[],results:=[],by_:=0,since:=0,yielding:=false,pauses:=0} :=
   ⟨hi,by simp only[List.length_take];omega,fun p hp=>hl p (List.mem_of_mem_take hp),Nat.zero_le _,Nat.zero_le _,Nat.le_refl _,Nat.le_refl _,Nat.le_refl _,Nat.le_refl _,by simp,(by intro x hx;cases hx)⟩
  exact⟨h0.again s',CA _ s'⟩
 refine⟨⟨_,rfl⟩,⟨?_,?_,?_,?_,?_⟩,fun i t ht=>?_,by simp[PMc.new]⟩
 ·simp[PMc.new,freshW];omega
 ·simp[PMc.new,PSt.held];omega
 ·simp[PMc.new,PSt.held];omega
 ·intro v hv;simp only[PMc.new,freshW] at hv;rcases List.mem_or_eq_of_mem_set hv with h1|h1
  ·rw[(List.mem_replicate.1 h1).2];exact U64.zero
  ·rw[h1];unfold U64;omega
 ·simp only[PMc.new,PSt.held];omega
 ·simp only[PMc.new,List.getElem?_map,Option.map_eq_some_iff] at ht;obtain⟨k,hk,rfl⟩:=ht;obtain⟨h1,h2⟩:=List.getElem?_eq_some_iff.1 hk;have hki:k=i:=by simpa using h2.symm
  subst hki;simp only[List.length_range,PSt.held] at h1;refine hth k (by omega) _ _ fun p hp=>?_
  rw[gD] at hp;cases he:(jobs.take 4)[k]? with
  |none=>rw[he] at hp;cases hp
  |some l =>
   rw[he] at hp;exact hj l (List.mem_of_mem_take (List.mem_of_getElem? he)) p hp
end
end
end Go.Proofs.YtfodmgaliclhfaaGreatDoor
