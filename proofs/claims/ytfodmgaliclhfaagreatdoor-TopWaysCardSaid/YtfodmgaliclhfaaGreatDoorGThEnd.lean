/- Lemmas. -/
import Derived.Test.YtfodmgaliclhfaaGreatDoorGOkMc
import Derived.Test.YtfodmgaliclhfaaGreatDoorGInts
import Derived.Test.YtfodmgaliclhfaaGreatDoorGAtTold
namespace Go.Proofs.YtfodmgaliclhfaaGreatDoor
set_option linter.unusedVariables false
set_option linter.unusedSimpArgs false
set_option maxRecDepth 100000
set_option maxHeartbeats 8000000
open Go.RowKit Go.Proofs.Tryz Iq Jq
theorem AtFine.well {x:PAt}(h:AtFine x):AtWell x :=
 ⟨h.st,fun k=>by obtain⟨f,hf,_⟩:=h.s3 k;exact⟨f,hf⟩,fun k=>by obtain⟨e,he,h1⟩:=h.s4 k;exact⟨e,he,h1.ok,h1.len,Nat.le_trans h1.at_ h1.len⟩,fun k=>by obtain⟨c,hc⟩:=h.s6 k;exact⟨c,hc,(h.co c hc).set⟩,h.nc,h.stamp⟩
theorem PMm.good.fits {m:PMm}(h:m.good):m.fits:=⟨h.words,h.locks,h.since⟩
theorem ItVal.items {x:PIt}(h:ItVal x):∀i∈x.out,i.ok:=fun i hi=>by
 have:=h.oks i hi
 cases i with
 |num n=>simp only[U64] at this;simp only[Itm.ok];omega
 |truth b=>trivial
 |nothing=>trivial
theorem AtFine.run {x:PAt}(h:AtFine x):x.v.ok∧x.run.regs.length=8∧x.run.out.length≤1000∧∀i∈x.run.out,i.ok:=by
 obtain⟨dep,hi⟩:=h.it;exact⟨hi.vf.ok,hi.regs,by have:=hi.out;omega,hi.toItVal.items⟩
structure AtTellOk (s:PSt) (x:PAt) (a:PAns):Prop where
 fine:AtFine x
 next:AtFine (x.tell s a)
 word:x.state=3→∀f,x.inner=.fetch f→U64 (f.tell a).word
theorem Sx (ω w:World)(F:HP)(b:Nat)(s:PSt)(x:PAt)(h:Sat ω w (atH b s x*F))(hs:s.fit)(a:PAns)(ho:AtTellOk s x a):
  Calls prog 62 #[.pointer b,ansA a] w (Rets ω F (.tuple #[]) (atH b s (x.tell s a))):=by
 obtain⟨aw,⟨av,ah,ao⟩,ad,ae⟩:=a;obtain⟨hf,hn,hw⟩:=ho;have hst:=hf.st;show Calls _ _ #[.pointer b,.agg #[υ aw,υ av,.bool ah,ao,.bool ad,ae]] w _
 by_cases k8:x.state=8
 ·have e:x.tell s ⟨aw,⟨av,ah,ao⟩,ad,ae⟩=x:=by unfold PAt.tell;rw[if_pos k8]
  rw[e];exact Qs ω w F b s x h k8 aw av ao ae ah ad
 by_cases he:ae≠0
 ·rw[Hd k8 he];exact LB ω w F b s x h x.state rfl k8 aw av ao ae ah ad he
 obtain rfl:ae=0:=by omega
 have hn':∀c,(x.tell s ⟨aw,⟨av,ah,ao⟩,ad,0⟩).inner=.commit c→c.now≤4611686018427387904:=fun c hc=>by
  have:=(hn.co c hc).now
  omega
 obtain⟨dep,hit⟩:=hf.it;rcases(by omega:x.state=0∨x.state=1∨x.state=2∨x.state=3∨(x.state=4∨x.state=5)∨x.state=6∨x.state=7) with k|k|k|k|k|k|k
 ·rw[AZ k (by omega) rfl]
  exact Qw ω w F b s x h k aw av ao ah ad
 ·rw[AZ k (by omega) rfl]
  exact Qv ω w F b s x h k aw av ao ah ad
 ·rw[AZ k (by omega) rfl]
  exact Qu ω w F b s x h k aw av ao ah ad dep hit hf.fin hf.reads hs (hf.nc (by omega))
 ·obtain⟨f,hi,hff⟩:=hf.s3 k;have e:x.tell s ⟨aw,⟨av,ah,ao⟩,ad,0⟩=PAt.told {x with inner:=.fetch (f.tell ⟨aw,⟨av,ah,ao⟩,ad,0⟩)} s:=by
   rw[AZ k (by omega) rfl,hi];rfl
  rw[e] at hn' ⊢;exact Qp ω w F b s x h 3 k rfl aw av ao ah ad f hi dep hit hf.fin hf.reads hs (hw k f hi) hn'
 ·obtain⟨f,hi,hff⟩:=hf.s4 k;have e:x.tell s ⟨aw,⟨av,ah,ao⟩,ad,0⟩=PAt.told {x with inner:=.extend (f.tell ⟨aw,⟨av,ah,ao⟩,ad,0⟩)} s:=by
   rcases k with k|k
   ·rw[AZ k (by omega) rfl,hi];rfl
   ·rw[AZ k (by omega) rfl,hi];rfl
  rw[e] at hn' ⊢;have hlen:=hff.len;have hat:=hff.at_;exact Qq ω w F b s x h x.state rfl k aw av ao ah ad f hi hs hit.vf.need (by omega) hff.ok (by omega) hn'
 ·obtain⟨f,hi⟩:=hf.s6 k;have e:x.tell s ⟨aw,⟨av,ah,ao⟩,ad,0⟩=PAt.told {x with inner:=.commit (f.tell ⟨aw,⟨av,ah,ao⟩,ad,0⟩)} s:=by
   rw[AZ k (by omega) rfl,hi];rfl
  rw[e] at hn' ⊢;exact Qr ω w F b s x h 6 k rfl aw av ao ah ad f hi (hf.co f hi).set hn'
 ·rw[AZ k (by omega) rfl]
  exact Qt ω w F b s x h k aw av ao ah ad
theorem Uh {w W:World}{p:Nat}{ok:Bool}{kind at_ old word wv wo lv lo:Nat}{wh lh:Bool}{tmps:Array Value}(h2:tmps.getD 2 undef=.pointer p)(h3:tmps.getD 3 undef=.bool ok){cs:Array Value}(hb:Blk W p 95 cs)(hcs:cs=#[.int .i64 kind,.int .i64 at_,.int .u64 old,.int .u64 word,.int .u64 wv,.bool wh,.int .i64 wo,.int .u64 lv,.bool lh,.int .i64 lo])(ho:Only Nob w W):
  bodyPost prog f37 (fun e w'=>e=.returned (.tuple #[.agg #[kind,at_,υ old,υ word,υ wv,.bool wh,wo,υ lv,.bool lh,lo],.bool ok])∧Only Nob w w') Exit.ret {tmps:=tmps,defers:=[]} W:=by
 subst hcs;have kl:=hb.lt;have m0:=hb.c 0;have m1:=hb.c 1;have m2:=hb.c 2;have m3:=hb.c 3;have m4:=hb.c 4;have m5:=hb.c 5;have m6:=hb.c 6;have m7:=hb.c 7;have m8:=hb.c 8;have m9:=hb.c 9;refine bodyPost_ret (v:=.tuple #[.agg #[kind,at_,υ old,υ word,υ wv,.bool wh,wo,υ lv,.bool lh,lo],.bool ok]) ?_ rfl ⟨rfl,ho⟩;have h2':tmps[2]?.getD undef=.pointer p:=by simpa using h2
 have h3':tmps[3]?.getD undef=.bool ok:=by simpa using h3
 simp[results,results37,go_sem,h2',h3',m0,m1,m2,m3,m4,m5,m6,m7,m8,m9]
theorem Bp {ω w:World}{F:HP}{b:Nat}{s:PSt}{t:PTh}{D:ThD}{x:PAt}(h:Sat ω w (thX b s t D t.job*F))(hx:t.now=some x):∃G,Sat ω w (atH D.nb s x*G)∧∀w' P y,Sat ω w' (P*(atH D.nb s y*G))→Sat ω w' (P*(thX b s {t with now:=some y} D t.job*F)):=by
 refine⟨bk b 138 (thC s t D t.job)*(thT t D*F),h.perm (by unfold thX;rw[hx];show _*(atH D.nb s x*_)*_=_;ac_rfl),fun w' P y h2=>h2.perm ?_⟩
 have e:thC s {t with now:=some y} D t.job=thC s t D t.job:=by unfold thC;rw[hx];rfl
 unfold thX;rw[e];show _=P*((_*(atH D.nb s y*thT t D))*F)
 ac_rfl
theorem Rh (ω w:World)(F:HP)(b:Nat)(s:PSt)(t:PTh)(h:Sat ω w (thH b s t*F))(hst:t.state=1∨t.state=2∨t.state=3∨t.state=4∨t.state=6)(hnow:t.state=1→∃x,t.now=some x∧AtWell x):
  Calls prog 37 #[.pointer b] w (AtNext w t.next):=by
 obtain⟨D,h⟩:=Ca h;have hb:=AE h;have lt:=hb.lt;have lt1:b<w.heap.size+1:=by omega
 obtain⟨st,hs⟩:∃st,t.state=st:=⟨_,rfl⟩;have k11:w.cell? (κ b 11)=some (.int .i64 st):=by rw[←hs];exact hb.cell 11
 rw[hs] at hst hnow;by_cases h1:st=1
 ·obtain⟨x,hx,hwx⟩:=hnow h1;obtain⟨G,g1,_⟩:=Bp h hx;have k16:w.cell? (κ b 16)=some (pV D.nb):=by
   have e:nowV D.nb t.now=pV D.nb:=by rw[hx];rfl
   rw[←e];exact hb.cell 16
  have HE:Hid (t.next=x.next):=h_ (by unfold PTh.next;rw[hs,h1,hx];rfl)
  have HN:Hid (∀o,Calls prog 59 #[.pointer D.nb] (w.alloc o) (AtNext (w.alloc o) x.next)):=h_ (fun o=>TB ω _ _ D.nb s x (g1.junk o) hwx)
  have HO:Hid (Only Nob w (w.alloc (.cells ξ 95))):=h_ ((Only.refl _ _).alloc _);rw[HE.o];unfold AtNext at HN ⊢;generalize x.next=r at *
  obtain⟨⟨kind,at_,old,word,⟨wv,wh,wo⟩,⟨lv,lh,lo⟩⟩,ok⟩:=r;have n1:((st:Int)==1)=true:=by subst h1;rfl
  unfold opA at HN ⊢;simp only at HN ⊢;have HB0:Hid (Blk (w.alloc (.cells ξ 95)) w.heap.size 95 ξ):=h_ (Blk.new _ _ _);go_enter func37,ntmps37;go_wp2_with (go_at_call 59;refine(HN.o _).mono ?_;rintro e w1 ⟨rfl,ho⟩;have kb:=HB0.o.only ho (fun e=>e);have kl:=kb.lt;have kf:=kb.frozen;have m0:=kb.cell 0;have m1:=kb.cell 1;have m2:=kb.cell 2;have m3:=kb.cell 3;have m4:=kb.cell 4;have m5:=kb.cell 5;have m6:=kb.cell 6;have m7:=kb.cell 7;have m8:=kb.cell 8;have m9:=kb.cell 9;have HO1:=h_ (HO.o.trans ho);have KB:=h_ kb)
  have KB2:=((((((((((KB.out.set_ 0 (.int .i64 kind)).set_ 1 (.int .i64 at_)).set_ 2 (.int .u64 old)).set_ 3 (.int .u64 word)).set_ 4 (.int .u64 wv)).set_ 5 (.bool wh)).set_ 6 (.int .i64 wo)).set_ 7 (.int .u64 lv)).set_ 8 (.bool lh)).set_ 9 (.int .i64 lo));have HO2:=((((((((((HO1.o.setCell (p:=⟨w.heap.size,0,none⟩) (.inr (Nat.le_refl _)) (.int .i64 kind)).setCell (p:=⟨w.heap.size,1,none⟩) (.inr (Nat.le_refl _)) (.int .i64 at_)).setCell (p:=⟨w.heap.size,2,none⟩) (.inr (Nat.le_refl _)) (.int .u64 old)).setCell (p:=⟨w.heap.size,3,none⟩) (.inr (Nat.le_refl _)) (.int .u64 word)).setCell (p:=⟨w.heap.size,4,none⟩) (.inr (Nat.le_refl _)) (.int .u64 wv)).setCell (p:=⟨w.heap.size,5,none⟩) (.inr (Nat.le_refl _)) (.bool wh)).setCell (p:=⟨w.heap.size,6,none⟩) (.inr (Nat.le_refl _)) (.int .i64 wo)).setCell (p:=⟨w.heap.size,7,none⟩) (.inr (Nat.le_refl _)) (.int .u64 lv)).setCell (p:=⟨w.heap.size,8,none⟩) (.inr (Nat.le_refl _)) (.bool lh)).setCell (p:=⟨w.heap.size,9,none⟩) (.inr (Nat.le_refl _)) (.int .i64 lo));refine Uh ?_ ?_ KB2 ?_ HO2
  ·simp
  ·simp
  ·simp
 have n1:((st:Int)==1)=false:=by simp;omega
 by_cases h2:st=2
 ·have k23:=hb.c 23;have HE:Hid (t.next=(POp.at' 8 t.by_,true)):=h_ (by unfold PTh.next;rw[hs,h2];rfl)
  have n2:((st:Int)==2)=true:=by subst h2;rfl
  rw[HE.o];unfold AtNext opA POp.at' POp.zero PLk.zero;simp only;generalize t.by_=by_ at *
  go_enter func37,ntmps37;go_wp2;refine bodyPost_ret (v:=.tuple #[.agg #[ι 8,by_,υ 0,υ 0,υ 0,.bool false,ι 0,υ 0,.bool false,ι 0],.bool true]) (by simp[results,results37,go_sem]) rfl ⟨?_,?_⟩
  ·first|rfl|simp
  ·repeat' (first|exact Only.refl _ _|(with_reducible first|refine Only.setCell ?_ ?_ _|refine Only.alloc ?_ _|refine Only.drew ?_))
   all_goals (try exact .inr (Nat.le_refl _))
 ·have n2:((st:Int)==2)=false:=by simp;omega
  have n5:((st:Int)==5)=false:=by simp;omega
  have HE:Hid (t.next=(POp.zero,false)):=h_ (by
   unfold PTh.next;rcases hst with k|k|k|k|k
   ·exact absurd k h1
   ·exact absurd k h2
   all_goals (rw[hs,k];rfl))
  rw[HE.o];unfold AtNext opA POp.zero PLk.zero;simp only;go_enter func37,ntmps37;go_wp2;refine bodyPost_ret (v:=.tuple #[.agg ξ,.bool false]) (by simp[results,results37,go_sem]) rfl ⟨?_,?_⟩
  ·first|rfl|simp
  ·repeat' (first|exact Only.refl _ _|(with_reducible first|refine Only.setCell ?_ ?_ _|refine Only.alloc ?_ _|refine Only.drew ?_))
   all_goals (try exact .inr (Nat.le_refl _))
theorem Oa (ω w:World)(F:HP)(b:Nat)(s:PSt)(t:PTh)(h:Sat ω w (thH b s t*F)):
  Calls prog 49 #[.pointer b] w fun e w'=>e=.returned t.state∧w'=w:=by
 obtain⟨D,h⟩:=Ca h;have hb:=AE h;have lt:=hb.lt;have k11:=hb.c 11;generalize t.state=st at *
 go_enter func49,ntmps49;go_wp2;go_ret;exact⟨rfl,rfl⟩
theorem TC {l:List (Nat×Nat)}{s v k:Nat}(hk:k<l.length)(h1:(l.getD k (0,0)).1=s)(h2:(l.getD k (0,0)).2≠v):l.any (fun r=>r.1==s&&r.2 != v)=true:=by
 rw[List.any_eq_true];refine⟨l.getD k (0,0),?_,?_⟩
 ·rw[gD,List.getElem?_eq_getElem hk];exact List.getElem_mem _
 ·simp only[Bool.and_eq_true,beq_iff_eq,bne_iff_ne];exact⟨h1,h2⟩
theorem RQ {l:List (Nat×Nat)}{s v:Nat}(h:∀j,j<l.length→(l.getD j (0,0)).1≠s∨(l.getD j (0,0)).2=v):l.any (fun r=>r.1==s&&r.2 != v)=false:=by
 rw[List.any_eq_false];intro r hr;obtain⟨j,hj,rfl⟩:=List.mem_iff_getElem.1 hr
 have:=h j hj
 rw[gD,List.getElem?_eq_getElem hj] at this;simp only[Bool.and_eq_true,beq_iff_eq,bne_iff_ne,not_and,ne_eq,Decidable.not_not];intro e;rcases this with h1|h1
 ·exact absurd e h1
 ·exact h1
theorem Rf (ω w:World)(F:HP)(b:Nat)(s:PSt)(t:PTh)(h:Sat ω w (thH b s t*F))(hs:s.kept)(hf:t.fit)(hr:∀x,t.now=some x→x.reads.length≤16)(k v:Nat):
  Calls prog 40 #[.pointer b,k,υ v] w (Rets ω F (.tuple #[]) (thH b s (t.wake s k v))):=by
 obtain⟨D,h⟩:=Ca h;have hb:=AE h;have lt:=hb.lt;have kf:=hb.frozen;have k16:=hb.c 16;cases hx:t.now with
 |none =>
  have e0:t.wake s k v=t:=by unfold PTh.wake;rw[hx]
  rw[e0];rw[hx] at k16;have k16':w.cell? (κ b 16)=some (.pointer none):=k16;have HZ:=h_ (Ak h);clear h hb hx hs hf hr e0 k16;go_enter func40,ntmps40;go_wp2;first|(go_ret;exact⟨rfl,HZ.o⟩)|exact bodyPost_end (results_none rfl _ _ _) rfl ⟨rfl,HZ.o⟩|exact bodyPost_ret (results_none rfl _ _ _) rfl ⟨rfl,HZ.o⟩
 |some x =>
  have hrl:=hr x hx;obtain⟨G,g1,g2⟩:=Bp h hx;have eself:({t with now:=some x}:PTh)=t:=by rw[←hx]
  rw[hx] at k16;have k16':w.cell? (κ b 16)=some (.pointer D.nb):=k16;have HSE:=h_ (Sz ω w G D.nb s x g1 (by omega))
  have HBK:Hid (∀w1 P,Sat ω w1 (P*(atH D.nb s x*G))→Sat ω w1 (P*(thX b s t D t.job*F))):=h_ (fun w1 P h1=>by have h2:=g2 w1 P x h1;rw[eself] at h2;exact h2)
  obtain⟨l,hl⟩:∃l,x.reads=l:=⟨_,rfl⟩;have HW:Hid (t.wake s k v=if l.any (fun r=>r.1==k&&r.2 != v) then(if t.state=4 then t.again s else if t.state=1∧x.blockingOf then {t with alarmed:=true} else t) else t):=h_ (by
   unfold PTh.wake;rw[hx];simp only[hl])
  rw[hl] at hrl HSE;obtain⟨N,hN⟩:∃N,l.length=N:=⟨_,rfl⟩;rw[hN] at hrl HSE;have HRW:Hid (∀w0 w1 A c (j:Nat),Sat ω w0 (row 148 2 (.slice A N c) N (vS l)*(atH D.nb s x*G))→Only Nob w0 w1→j<N→∃g,A=some ⟨g,0,none⟩∧g<w1.heap.size∧w1.cell? (κ g (j*2))=some (.int .i64 ((l.getD j (0,0)).1:Int))∧w1.cell? (κ g (j*2+1))=some (.int .u64 ((l.getD j (0,0)).2:Int))):=h_ (fun w0 w1 A c j h0 ho hj=>by
   subst hN;obtain⟨g,h5,h6,h7⟩:=(h0.nob ho).rowAt (l:=l) (f:=seV) (fun _=>rfl) (0,0) hj
   exact⟨g,h5,h6,h7 0 (by omega),h7 1 (by omega)⟩)
  have HHI:Hid (∀j,j<N→(l.getD j (0,0)).1=k→(l.getD j (0,0)).2≠v→l.any (fun r=>r.1==k&&r.2 != v)=true):=h_ (fun j hj h1 h2=>TC (hN▸hj) h1 h2)
  have HMI:Hid ((∀j,j<N→(l.getD j (0,0)).1≠k∨(l.getD j (0,0)).2=v)→l.any (fun r=>r.1==k&&r.2 != v)=false):=h_ (fun h1=>RQ (hN▸h1))
  have HBL:Hid (∀w1 P,Sat ω w1 (P*(atH D.nb s x*G))→Calls prog 68 #[.pointer D.nb] w1 fun e w'=>e=.returned (.bool x.blockingOf)∧w'=w1):=h_ (fun w1 P h1=>JQ ω w1 _ D.nb s x h1.swap)
  have HAG:Hid (∀w1 P,Sat ω w1 (P*(thX b s t D t.job*F))→Calls prog 60 #[.pointer b] w1 (Rets ω F (.tuple #[]) (thH b s (t.again s)))):=h_ (fun w1 P h1=>Bo ω w1 F b s t D h1.right hs hf)
  have HCE:Hid (∀w1 P,Sat ω w1 (P*(thX b s t D t.job*F))→Blk w1 b 138 (thC s t D t.job)):=h_ (fun w1 P h1=>AE h1.right)
  have HAL:Hid (∀w1 P,Sat ω w1 (P*(thX b s t D t.job*F))→Sat ω (w1.setCell (κ b 18) (.bool true)) (thH b s {t with alarmed:=true}*F)):=h_ (fun w1 P h1=>Ak (D:=D) (Af (t':={t with alarmed:=true}) h1.right 18 (.bool true) rfl rfl rfl rfl rfl))
  have HTO:Hid (∀w1 P,Sat ω w1 (P*(thX b s t D t.job*F))→Sat ω w1 (thH b s t*F)):=h_ (fun w1 P h1=>Ak h1.right)
  rw[HW.o];have HNV:Hid (nowV D.nb t.now=pV D.nb):=h_ (by rw[hx];rfl)
  generalize x.blockingOf=bl at *
  generalize hany:l.any (fun r=>r.1==k&&r.2 != v)=an at *
  obtain⟨y0,hy0⟩:∃y0,(if an=true then(if t.state=4 then t.again s else if t.state=1∧bl=true then {t with alarmed:=true} else t) else t)=y0:=⟨_,rfl⟩
  rw[hy0];have HY0:=h_ hy0;clear h hb g1 g2 hs hf hr hl hN k16 HW hany hx eself hy0;go_enter func40,ntmps40;go_wp2_with (go_at_call 67;refine(HSE.o).mono ?_;rintro e w1 ⟨A,c,rfl,hs⟩;have HS:=h_ hs;clear hs);go_loopw [7,19] (fun _ i wr=>∃j:Nat,j≤N∧i=.int .i64 j∧Hid (Only Nob w1 wr)∧Hid (∀q,q<j→(l.getD q (0,0)).1≠k∨(l.getD q (0,0)).2=v)) (fun _ i _=>N-(intOf i).toNat)
  case atStart=>exact⟨0,by omega,rfl,Only.refl _ _,fun j hj=>absurd hj (by omega)⟩
  case round =>
   obtain⟨j,hj,rfl,HO,HP⟩:=hrel;by_cases hlt:j<N
   ·obtain⟨g,rfl,hg,r0,r1⟩:=HRW.o w1 _ _ _ j HS.o HO.o hlt;have HX:=h_ (fun h1 h2=>HHI.o j hlt h1 h2)
    obtain⟨x1,hx1⟩:∃x1,(l.getD j (0,0)).1=x1:=⟨_,rfl⟩;obtain⟨x2,hx2⟩:∃x2,(l.getD j (0,0)).2=x2:=⟨_,rfl⟩;rw[hx1] at r0 HX;rw[hx2] at r1 HX;have HX1:=h_ hx1;have HX2:=h_ hx2;by_cases he:x1=k∧x2≠v
    ·have han:=HX.o he.1 he.2;have d1:((x1:Int) != (k:Int))=false:=by simp;omega
     have d2:((x2:Int)==(v:Int))=false:=by simp;omega
     have HO2:Hid (Sat ω (wr.alloc (.cells #[x1,υ x2] 148)) (row 148 2 (.slice (some ⟨g,0,none⟩) N c) N (vS l)*(atH D.nb s x*G))):=h_ ((HS.o.nob HO.o).junk _);have HTH:=h_ (HBK.o _ _ HO2.o);have HCB:=h_ (HCE.o _ _ HTH.o);have qf:=HCB.o.frozen;have ql:=HCB.o.lt;obtain⟨st,hst⟩:∃st,t.state=st:=⟨_,rfl⟩;have q11:(wr.alloc (.cells #[x1,υ x2] 148)).cell? (κ b 11)=some (.int .i64 st):=by rw[←hst];exact HCB.o.cell 11
     have q16:(wr.alloc (.cells #[x1,υ x2] 148)).cell? (κ b 16)=some (.pointer D.nb):=by have e9:(wr.alloc (.cells #[x1,υ x2] 148)).cell? (κ b 16)=some (nowV D.nb t.now):=HCB.o.cell 16;rw[HNV.o] at e9;exact e9
     have q18:(wr.alloc (.cells #[x1,υ x2] 148)).cell? (κ b 18)=some (.bool t.alarmed):=HCB.o.cell 18;have HA1:=h_ (HAG.o _ _ HTH.o);have HB1:=h_ (HBL.o _ _ HO2.o);have HL1:=h_ (HAL.o _ _ HTH.o);have HT1:=h_ (HTO.o _ _ HTH.o);clear HX HX1 HX2 HP HRW HHI HMI HBL HAG HAL HTO HCE HBK HS he;by_cases h4:st=4
     ·have d4:((st:Int)==4)=true:=by subst h4;rfl
      have hy:t.again s=y0:=by rw[←HY0.o,han,if_pos rfl,hst,if_pos h4]
      subst hy;generalize t.again s=ya at *
      generalize t.alarmed=al at *
      clear h4 HT1 HL1 HB1 hst han HY0;go_wp2_with (go_at_call 60;refine(HA1.o).mono ?_;rintro e w2 ⟨rfl,hs⟩;have HZ:=h_ hs);first|(go_ret;exact⟨rfl,HZ.o⟩)|exact bodyPost_end (results_none rfl _ _ _) rfl ⟨rfl,HZ.o⟩|exact bodyPost_ret (results_none rfl _ _ _) rfl ⟨rfl,HZ.o⟩
     have d4:((st:Int)==4)=false:=by simp;omega
     by_cases h1:st=1
     ·have d5:((st:Int)==1)=true:=by subst h1;rfl
      cases bl
      ·have hy:t=y0:=by rw[←HY0.o,han,if_pos rfl,hst,if_neg h4,if_neg (by simp)]
       subst hy;generalize t.alarmed=al at *
       go_wp2_with (go_at_call 68;refine(HB1.o).mono ?_;rintro e w2 ⟨rfl,rfl⟩);first|(go_ret;exact⟨rfl,HT1.o⟩)|exact bodyPost_end (results_none rfl _ _ _) rfl ⟨rfl,HT1.o⟩|exact bodyPost_ret (results_none rfl _ _ _) rfl ⟨rfl,HT1.o⟩
      ·have hy:({t with alarmed:=true}:PTh)=y0:=by rw[←HY0.o,han,if_pos rfl,hst,if_neg h4,if_pos ⟨h1,rfl⟩]
       subst hy;generalize ({t with alarmed:=true}:PTh)=yl at *
       generalize t.alarmed=al at *
       go_wp2_with (go_at_call 68;refine(HB1.o).mono ?_;rintro e w2 ⟨rfl,rfl⟩);first|(go_ret;exact⟨rfl,HL1.o⟩)|exact bodyPost_end (results_none rfl _ _ _) rfl ⟨rfl,HL1.o⟩|exact bodyPost_ret (results_none rfl _ _ _) rfl ⟨rfl,HL1.o⟩
     ·have d5:((st:Int)==1)=false:=by simp;omega
      have hy:t=y0:=by rw[←HY0.o,han,if_pos rfl,hst,if_neg h4,if_neg (fun h9=>h1 h9.1)]
      subst hy;generalize t.alarmed=al at *
      go_wp2;first|(go_ret;exact⟨rfl,HT1.o⟩)|exact bodyPost_end (results_none rfl _ _ _) rfl ⟨rfl,HT1.o⟩|exact bodyPost_ret (results_none rfl _ _ _) rfl ⟨rfl,HT1.o⟩
    ·have HP2:Hid (∀q,q<j+1→(l.getD q (0,0)).1≠k∨(l.getD q (0,0)).2=v):=h_ (fun q hq=>by
      rcases Nat.lt_or_ge q j with h1|h1
      ·exact HP.o q h1
      ·obtain rfl:q=j:=by omega
       rw[HX1.o,HX2.o];omega)
     by_cases he1:x1=k
     ·have d1:((x1:Int) != (k:Int))=false:=by simp;omega
      have d2:((x2:Int)==(v:Int))=true:=by rw[beq_iff_eq];omega
      go_wp2;exact⟨⟨j+1,by omega,by go_num,HO.o.alloc _,HP2.o⟩,by simp[intOf];omega⟩
     ·have d1:((x1:Int) != (k:Int))=true:=by simp;omega
      go_wp2;exact⟨⟨j+1,by omega,by go_num,HO.o.alloc _,HP2.o⟩,by simp[intOf];omega⟩
   ·have HE:=h_ (HMI.o (fun q hq=>HP.o q (by omega)))
    have HZ:=h_ (HTO.o _ _ (HBK.o _ _ (HS.o.nob HO.o)));have hy:t=y0:=by rw[←HY0.o,HE.o];rfl
    subst hy;go_wp2;first|(go_ret;exact⟨rfl,HZ.o⟩)|exact bodyPost_end (results_none rfl _ _ _) rfl ⟨rfl,HZ.o⟩|exact bodyPost_ret (results_none rfl _ _ _) rfl ⟨rfl,HZ.o⟩
theorem Eu:(prog.info? 52).map (fun i=>(i.zero,i.size,i.bytes))=some (some (.agg η),14,168):=by kernel_rfl
theorem Pf:(prog.info? 66).map (fun i=>(i.zero,i.size,i.bytes))=some (some (.agg #[ι 0,ι 0,.string ⟨#[]⟩,υ 0]),4,40):=by kernel_rfl
theorem DN (q:Value×Value)(T:PTo):∀(ps:List (Value×Value)) (ts:List PTo),ps.length=ts.length→toVs (ps++[q]) (ts++[T])=toVs ps ts++toV q T∧toAll (ps++[q]) (ts++[T])=toAll ps ts*toH q T
 | [],[],_=>by
  refine⟨by simp[toVs],?_⟩
  show toH q T*emp=emp*toH q T
  exact Am _ _
 |p::ps,t::ts,h=>by
  obtain⟨h1,h2⟩:=DN q T ps ts (by simpa using h)
  refine⟨?_,?_⟩
  ·show toV p t++toVs (ps++[q]) (ts++[T])=toV p t++toVs ps ts++toV q T
   rw[h1,List.append_assoc]
  ·show toH p t*toAll (ps++[q]) (ts++[T])=(toH p t*toAll ps ts)*toH q T
   rw[h2];ac_rfl
def pastG (b:Nat)(s:PSt)(t:PTh)(D:ThD):HP:=bk b 138 (thC s t D t.job)*(nowH s D.nb t.now*(thJ t.jobs D*(toAll D.ps t.past*(row 66 4 D.rv t.results.length (t.results.flatMap reV)*bk D.lb 188 #[.slice none 0 0]))))
theorem Co {ω w:World}{F:HP}{b:Nat}{s:PSt}{t:PTh}{D:ThD}(h:Sat ω w (thX b s t D t.job*F)):D.ps.length=t.past.length∧Sat ω w (row 52 14 D.pv t.past.length (toVs D.ps t.past)*(pastG b s t D*F)):=by
 unfold thX thT at h;have h1:Sat ω w (fact (D.ps.length=t.past.length)*(row 52 14 D.pv t.past.length (toVs D.ps t.past)*(pastG b s t D*F))):=h.perm (by unfold pastG;ac_rfl)
 exact h1.of_fact
theorem Ms {ω w:World}{F R:HP}{b:Nat}{s:PSt}{t:PTh}{D:ThD}(h:Sat ω w (R*(pastG b s t D*F))):Blk w b 138 (thC s t D t.job):=by
 have h1:=h.right;unfold pastG at h1;exact h1.assoc.blk
theorem MW {ω w:World}{F:HP}{b:Nat}{s:PSt}{t:PTh}{D:ThD}{T:PTo}{q:Value×Value}{A:Option Addr}{n c:Nat}(hn:t.past.length=n)(hl:D.ps.length=t.past.length)
  (h:Sat ω w (row 52 14 (.slice A (n+1) c) (n+1) (toVs D.ps t.past++toV q T)*(pastG b s t D*(toH q T*F)))):
  Sat ω (w.setCell (κ b 19) (.slice A (n+1) c)) (thX b s {t with past:=t.past++[T]} {D with pv:=.slice A (n+1) c,ps:=D.ps++[q]} t.job*F):=by
 unfold pastG at h;have h0:Sat ω w (bk b 138 (thC s t D t.job)*(row 52 14 (.slice A (n+1) c) (n+1) (toVs D.ps t.past++toV q T)*(nowH s D.nb t.now*(thJ t.jobs D*(toAll D.ps t.past*((row 66 4 D.rv t.results.length (t.results.flatMap reV)*bk D.lb 188 #[.slice none 0 0])*(toH q T*F))))))):=h.perm (by ac_rfl)
 have h2:=h0.put 19 (.slice A (n+1) c) (cs':=thC s {t with past:=t.past++[T]} {D with pv:=.slice A (n+1) c,ps:=D.ps++[q]} t.job) rfl
 obtain⟨e1,e2⟩:=DN q T D.ps t.past hl;unfold thX thT;simp only;rw[e1,e2];have h3:=h2.to_fact (p:=(D.ps++[q]).length=(t.past++[T]).length) (by simp[hl])
 have e3:(t.past++[T]).length=n+1:=by simp[hn]
 rw[e3] at h3 ⊢;refine h3.perm ?_;unfold thJ nowH;ac_rfl
def resG (b:Nat)(s:PSt)(t:PTh)(D:ThD):HP:=bk b 138 (thC s t D t.job)*(nowH s D.nb t.now*(thJ t.jobs D*((fact (D.ps.length=t.past.length)*(row 52 14 D.pv t.past.length (toVs D.ps t.past)*toAll D.ps t.past))*bk D.lb 188 #[.slice none 0 0])))
theorem LT {ω w:World}{F:HP}{b:Nat}{s:PSt}{t:PTh}{D:ThD}(h:Sat ω w (thX b s t D t.job*F)):Sat ω w (row 66 4 D.rv t.results.length (t.results.flatMap reV)*(resG b s t D*F)):=by
 unfold thX thT at h;exact h.perm (by unfold resG;ac_rfl)
theorem MU {ω w:World}{F:HP}{b:Nat}{s:PSt}{t:PTh}{D:ThD}(h:Sat ω w (row 66 4 D.rv t.results.length (t.results.flatMap reV)*(resG b s t D*F))):Sat ω w (thX b s t D t.job*F):=by
 unfold resG at h;unfold thX thT;exact h.perm (by ac_rfl)
theorem Oy {ω w:World}{F R:HP}{b:Nat}{s:PSt}{t:PTh}{D:ThD}(h:Sat ω w (R*(resG b s t D*F))):Blk w b 138 (thC s t D t.job):=by
 have h1:=h.right;unfold resG at h1;exact h1.assoc.blk
theorem MV {ω w:World}{F:HP}{b:Nat}{s:PSt}{t:PTh}{D:ThD}{r:PRe}{A:Option Addr}{n c:Nat}(hn:t.results.length=n)
  (h:Sat ω w (row 66 4 (.slice A (n+1) c) (n+1) (t.results.flatMap reV++reV r)*(resG b s t D*F))):
  Sat ω (w.setCell (κ b 20) (.slice A (n+1) c)) (thX b s {t with results:=t.results++[r]} {D with rv:=.slice A (n+1) c} t.job*F):=by
 unfold resG at h;have h0:Sat ω w (bk b 138 (thC s t D t.job)*(row 66 4 (.slice A (n+1) c) (n+1) (t.results.flatMap reV++reV r)*(nowH s D.nb t.now*(thJ t.jobs D*(((fact (D.ps.length=t.past.length)*(row 52 14 D.pv t.past.length (toVs D.ps t.past)*toAll D.ps t.past))*bk D.lb 188 #[.slice none 0 0])*F))))):=h.perm (by ac_rfl)
 have h2:=h0.put 20 (.slice A (n+1) c) (cs':=thC s {t with results:=t.results++[r]} {D with rv:=.slice A (n+1) c} t.job) rfl
 unfold thX thT;simp only;have e3:(t.results++[r]).length=n+1:=by simp[hn]
 have e4:(t.results++[r]).flatMap reV=t.results.flatMap reV++reV r:=by simp
 rw[e3,e4];refine h2.perm ?_;unfold thJ;ac_rfl
end Go.Proofs.YtfodmgaliclhfaaGreatDoor
