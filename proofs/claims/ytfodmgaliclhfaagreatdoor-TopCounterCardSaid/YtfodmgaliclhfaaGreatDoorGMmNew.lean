/- Lemmas; no conditions. -/
import Derived.Test.YtfodmgaliclhfaaGreatDoorGThAtt
namespace Go.Proofs.YtfodmgaliclhfaaGreatDoor
set_option linter.unusedVariables false
set_option linter.unusedSimpArgs false
set_option maxRecDepth 100000
set_option maxHeartbeats 16000000
open Go.RowKit
def AtsP (ω:World)(X:HP)(ts:List PTo)(k:Nat)(A:Option Addr)(c:Nat)(w:World):Prop:=∃qs:List (Value×Value),qs.length=k∧Sat ω w (row 52 14 (.slice A k c) k (toVs qs (ts.take k))*(toAll qs (ts.take k)*X))
theorem AtsP.row {ω w:World}{X:HP}{ts:List PTo}{k:Nat}{A:Option Addr}{c:Nat}(h:AtsP ω X ts k A c w):∃xs G,Sat ω w (row 52 14 (.slice A k c) k xs*(G*X))∧∀(w':World) A' c' B1 B2 d1 d2 T,ts[k]?=some T→Sat ω w' (row 52 14 (.slice A' (k+1) c') (k+1) (xs++toV (.slice B1 T.reads.length d1,.slice B2 T.cells.length d2) T)*(G*(toH (.slice B1 T.reads.length d1,.slice B2 T.cells.length d2) T*X)))→AtsP ω X ts (k+1) A' c' w':=by
 obtain⟨qs,hq,h1⟩:=h;refine⟨_,_,h1,fun w' A' c' B1 B2 d1 d2 T hT h2=>⟨qs++[(.slice B1 T.reads.length d1,.slice B2 T.cells.length d2)],by simp[hq],?_⟩⟩
 have hk:k<ts.length:=(List.getElem?_eq_some_iff.1 hT).1;have e0:ts.take (k+1)=ts.take k++[T]:=by
  rw[List.take_add_one,hT];rfl
 obtain⟨e1,e2⟩:=toVs_snoc (.slice B1 T.reads.length d1,.slice B2 T.cells.length d2) T qs (ts.take k) (by simp[hq];omega)
 rw[e0,e1,e2];exact h2.perm (by ac_rfl)
theorem AtsP.drewN {ω w:World}{X:HP}{ts:List PTo}{k:Nat}{A:Option Addr}{c:Nat}(h:AtsP ω X ts k A c w)(q:Nat):AtsP ω X ts k A c (w.drewN q):=by
 obtain⟨qs,h1,h2⟩:=h;exact⟨qs,h1,h2.drewN q⟩
theorem th_attempts [Inhabited PowO](ω w:World)(F:HP)(b:Nat)(s:PSt)(t:PTh)(h:Sat ω w (thH b s t*(powH*F)))(hst:t.state=1∨t.state=2∨t.state=3∨t.state=4∨t.state=6)(hnow:t.state=1→∃x,t.now=some x∧EndOk x)(hpl:t.past.length≤100000)(hpo:∀T∈t.past,T.reads.length≤1000∧T.cells.length≤1000):
  Calls Tryz.prog 41 #[.pointer (some ⟨b,0,none⟩)] w fun e w'=>∃A c,e=.returned (.slice A t.attempts.length c)∧AtsP ω (thH b s t*(powH*F)) t.attempts t.attempts.length A c w':=by
 obtain⟨D,h⟩:=thH_of h;have hb:=thX_blk h;have kf:=hb.frozen;have kl:=hb.lt;obtain⟨n,hn⟩:∃n,t.past.length=n:=⟨_,rfl⟩;obtain⟨st,hs⟩:∃st,t.state=st:=⟨_,rfl⟩;obtain⟨X,hX⟩:∃X:HP,X=thX b s t D t.job*(powH*F):=⟨_,rfl⟩;obtain⟨_,hrow⟩:=thX_past h;obtain⟨Ap,cp,hpv⟩:=hrow.rowForm;rw[hn] at hpl hpv;have k19:w.cell? ⟨b,19,none⟩=some (.slice Ap n cp):=by rw[←hpv];exact hb.cell 19
 obtain⟨i0,hi0,hz⟩:=Option.map_eq_some_iff.1 infoAtt_;simp only[Prod.mk.injEq] at hz;obtain⟨hz0,hz1,hz2⟩:=hz;have HI:=h_ hi0;have HZ0:=h_ hz0;have HZ1:=h_ hz1;have HZ2:=h_ hz2;have HON:Hid (∀(thread job try_ kind err begin stamp born ended:Nat) (sl:ByteArray) (B1 B2:Option Addr) (n1 d1 n2 d2:Nat),∀u∈([.int .i64 thread,.int .i64 job,.int .i64 try_,.bool false,.int .i64 kind,.int .i64 err,.int .u64 begin,.int .u64 stamp,.int .i64 born,.int .i64 ended,.slice B1 n1 d1,.slice B2 n2 d2,.slice none 0 0,.string sl]:List Value),u.oneCell'=true):=h_ (by intro thread job try_ kind err begin stamp born ended sl B1 B2 n1 d1 n2 d2 u hu;simp at hu;rcases hu with rfl|rfl|rfl|rfl|rfl|rfl|rfl|rfl|rfl|rfl|rfl|rfl|rfl|rfl<;>rfl)
 have HRD:Hid (∀(w1:World) (thread job try_ kind err begin stamp born ended:Nat) (sl:ByteArray) (B1 B2:Option Addr) (n1 d1 n2 d2:Nat),Reads (w1.alloc (.cells #[.int .i64 thread,.int .i64 job,.int .i64 try_,.bool false,.int .i64 kind,.int .i64 err,.int .u64 begin,.int .u64 stamp,.int .i64 born,.int .i64 ended,.slice B1 n1 d1,.slice B2 n2 d2,.slice none 0 0,.string sl] 52)) (w1.heap.size+1) 14 (some ⟨w1.heap.size,0,none⟩) 1 [.int .i64 thread,.int .i64 job,.int .i64 try_,.bool false,.int .i64 kind,.int .i64 err,.int .u64 begin,.int .u64 stamp,.int .i64 born,.int .i64 ended,.slice B1 n1 d1,.slice B2 n2 d2,.slice none 0 0,.string sl]):=h_ (fun w1 thread job try_ kind err begin stamp born ended sl B1 B2 n1 d1 n2 d2=>by
  have h9:=Reads.of_blk (size:=14) (n:=1) (Blk.new w1 52 #[.int .i64 thread,.int .i64 job,.int .i64 try_,.bool false,.int .i64 kind,.int .i64 err,.int .u64 begin,.int .u64 stamp,.int .i64 born,.int .i64 ended,.slice B1 n1 d1,.slice B2 n2 d2,.slice none 0 0,.string sl]) rfl;rw[World.size_alloc] at h9;exact h9)
 have HRO:Hid (∀k (hk:k<n) (w1:World) A c,AtsP ω X t.attempts k A c w1→∃(thread job try_ kind err begin stamp born ended:Nat) (sl:ByteArray) (A1 A2:Option Addr) (n1 c1 n2 c2 g:Nat) (xs:List Value),Ap=some ⟨g,0,none⟩∧g<w1.heap.size∧(w1.cell? ⟨g,k*14,none⟩=some (.int .i64 thread)∧w1.cell? ⟨g,k*14+1,none⟩=some (.int .i64 job)∧w1.cell? ⟨g,k*14+2,none⟩=some (.int .i64 try_)∧w1.cell? ⟨g,k*14+3,none⟩=some (.bool false)∧w1.cell? ⟨g,k*14+4,none⟩=some (.int .i64 kind)∧w1.cell? ⟨g,k*14+5,none⟩=some (.int .i64 err)∧w1.cell? ⟨g,k*14+6,none⟩=some (.int .u64 begin)∧w1.cell? ⟨g,k*14+7,none⟩=some (.int .u64 stamp)∧w1.cell? ⟨g,k*14+8,none⟩=some (.int .i64 born)∧w1.cell? ⟨g,k*14+9,none⟩=some (.int .i64 ended)∧w1.cell? ⟨g,k*14+10,none⟩=some (.slice A1 n1 c1)∧w1.cell? ⟨g,k*14+11,none⟩=some (.slice A2 n2 c2)∧w1.cell? ⟨g,k*14+12,none⟩=some (.slice none 0 0)∧w1.cell? ⟨g,k*14+13,none⟩=some (.string sl))∧(∃Z,Sat ω w1 (row 52 14 (.slice A k c) k xs*Z)) ∧
   Calls Tryz.prog 69 #[.agg #[.int .i64 thread,.int .i64 job,.int .i64 try_,.bool false,.int .i64 kind,.int .i64 err,.int .u64 begin,.int .u64 stamp,.int .i64 born,.int .i64 ended,.slice A1 n1 c1,.slice A2 n2 c2,.slice none 0 0,.string sl]] (w1.alloc (.cells #[.int .i64 thread,.int .i64 job,.int .i64 try_,.bool false,.int .i64 kind,.int .i64 err,.int .u64 begin,.int .u64 stamp,.int .i64 born,.int .i64 ended,.slice A1 n1 c1,.slice A2 n2 c2,.slice none 0 0,.string sl] 52)) (fun e w'=>∃B1 d1 B2 d2,e=.returned (.agg #[.int .i64 thread,.int .i64 job,.int .i64 try_,.bool false,.int .i64 kind,.int .i64 err,.int .u64 begin,.int .u64 stamp,.int .i64 born,.int .i64 ended,.slice B1 n1 d1,.slice B2 n2 d2,.slice none 0 0,.string sl])∧∃Z,Sat ω w' (row 52 14 (.slice A k c) k xs*Z)∧∀w'' A' c',Sat ω w'' (row 52 14 (.slice A' (k+1) c') (k+1) (xs++[.int .i64 thread,.int .i64 job,.int .i64 try_,.bool false,.int .i64 kind,.int .i64 err,.int .u64 begin,.int .u64 stamp,.int .i64 born,.int .i64 ended,.slice B1 n1 d1,.slice B2 n2 d2,.slice none 0 0,.string sl])*Z)→AtsP ω X t.attempts (k+1) A' c' w'')):=h_ (fun k hk w1 A c h1=>by
  obtain⟨xs,G,h2,h3⟩:=h1.row;have hk2:k<t.past.length:=by omega
  have h2':Sat ω w1 (thX b s t D t.job*(powH*F*(row 52 14 (.slice A k c) k xs*G))):=h2.perm (by rw[hX];ac_rfl)
  obtain⟨g,A1,c1,A2,c2,R,_,⟨c',hpv'⟩,hg,hcell,hXe⟩:=thX_pastAt h2' hk2;have hAp:Ap=some ⟨g,0,none⟩:=by rw[hpv] at hpv';injection hpv'
  have hat:t.attempts[k]?=some t.past[k]:=by
   unfold PTh.attempts;rw[List.getElem?_append_left hk2,List.getElem?_eq_getElem hk2]
  have hlen:=hpo t.past[k] (List.getElem_mem hk2);obtain⟨T,hT⟩:∃T,t.past[k]=T:=⟨_,rfl⟩;rw[hT] at hcell hXe hat hlen;refine⟨T.thread,T.job,T.try_,T.kind,T.err,T.begin,T.stamp,T.born,T.ended,⟨T.slate.toArray⟩,A1,A2,T.reads.length,c1,T.cells.length,c2,g,xs,hAp,hg,?_,⟨_,h2⟩,?_⟩
  ·exact⟨hcell 0 (by omega),hcell 1 (by omega),hcell 2 (by omega),hcell 3 (by omega),hcell 4 (by omega),hcell 5 (by omega),hcell 6 (by omega),hcell 7 (by omega),hcell 8 (by omega),hcell 9 (by omega),hcell 10 (by omega),hcell 11 (by omega),hcell 12 (by omega),hcell 13 (by omega)⟩
  ·have h4:Sat ω (w1.alloc (.cells #[.int .i64 T.thread,.int .i64 T.job,.int .i64 T.try_,.bool false,.int .i64 T.kind,.int .i64 T.err,.int .u64 T.begin,.int .u64 T.stamp,.int .i64 T.born,.int .i64 T.ended,.slice A1 T.reads.length c1,.slice A2 T.cells.length c2,.slice none 0 0,.string ⟨T.slate.toArray⟩] 52)) (row 54 2 (.slice A1 T.reads.length c1) T.reads.length (vS T.reads)*(row 54 2 (.slice A2 T.cells.length c2) T.cells.length (vS T.cells)*(R*(powH*F*(row 52 14 (.slice A k c) k xs*G))))):=(h2'.junk _).perm (by rw[hXe];unfold toH;ac_rfl)
   refine(th_copied ω _ _ T.thread T.job T.try_ T.kind T.err T.begin T.stamp T.born T.ended ⟨T.slate.toArray⟩ A1 A2 T.reads.length c1 T.cells.length c2 T.reads T.cells (by omega) (by omega) h4).mono ?_
   rintro e w2 ⟨B1,d1,B2,d2,rfl,h5⟩;refine⟨B1,d1,B2,d2,rfl,G*(toH (.slice B1 T.reads.length d1,.slice B2 T.cells.length d2) T*X),h5.perm (by rw[hX,hXe];unfold toH;simp only;ac_rfl),fun w'' A' c'' h6=>?_⟩
   exact h3 w'' A' c'' B1 B2 d1 d2 T hat h6)
 have HEND:Hid (∀(w1:World) A c,AtsP ω X t.attempts n A c w1→Sat ω w1 (thX b s t D t.job*(powH*F))∧((st≠1∨(∃x,t.now=some x∧x.begun=false))→t.attempts.length=n)):=h_ (fun w1 A c h1=>by
  obtain⟨xs,G,h2,_⟩:=h1.row;refine⟨by rw[hX] at h2;exact h2.right.right,fun h3=>?_⟩
  unfold PTh.attempts;rcases h3 with h3|⟨x,hx,hxb⟩
  ·rw[if_neg (by omega),List.append_nil,hn]
  ·rw[List.length_append,hn];split
   ·rw[hx];simp only;rw[if_neg (by simp[hxb])];rfl
   ·rfl)
 have HSTART:Hid (AtsP ω X t.attempts 0 none 0 w):=h_ ⟨[],rfl,by
  have h1:=h.nil 52 14;rw[hX];exact h1.perm (by show _=_*(emp*_);rw[emp_star];rfl)⟩
 have HBK:Hid (∀(w1:World),Sat ω w1 (thX b s t D t.job*(powH*F))→Blk w1 b 138 (thC s t D t.job)):=h_ (fun w1 h1=>thX_blk h1)
 have HFIN:Hid (∀(w1:World) A c k,t.attempts.length=k→AtsP ω X t.attempts k A c w1→AtsP ω (thH b s t*(powH*F)) t.attempts k A c w1):=h_ (fun w1 A c k _ h1=>by
  obtain⟨qs,h2,h3⟩:=h1;refine⟨qs,h2,?_⟩;rw[hX] at h3;have h4:Sat ω w1 (thX b s t D t.job*(powH*F*(row 52 14 (.slice A k c) k (toVs qs (t.attempts.take k))*toAll qs (t.attempts.take k)))):=h3.perm (by ac_rfl)
  exact(thH_to h4).perm (by ac_rfl))
 have HTL:Hid (∀x,t.now=some x→st=1→EndOk x→x.begun=true→t.attempts.length=n+1∧∀(w1:World) A c,AtsP ω X t.attempts n A c w1→∃(thread job try_ kind err begin stamp born ended:Nat) (sl:ByteArray) (n1 n2:Nat) (xs:List Value),
   Calls Tryz.prog 70 #[.pointer (some ⟨b,0,none⟩),.int .i64 0] w1 (fun e w'=>∃B1 d1 B2 d2,e=.returned (.agg #[.int .i64 thread,.int .i64 job,.int .i64 try_,.bool false,.int .i64 kind,.int .i64 err,.int .u64 begin,.int .u64 stamp,.int .i64 born,.int .i64 ended,.slice B1 n1 d1,.slice B2 n2 d2,.slice none 0 0,.string sl])∧∃Z,Sat ω w' (row 52 14 (.slice A n c) n xs*Z)∧∀w'' A' c',Sat ω w'' (row 52 14 (.slice A' (n+1) c') (n+1) (xs++[.int .i64 thread,.int .i64 job,.int .i64 try_,.bool false,.int .i64 kind,.int .i64 err,.int .u64 begin,.int .u64 stamp,.int .i64 born,.int .i64 ended,.slice B1 n1 d1,.slice B2 n2 d2,.slice none 0 0,.string sl])*Z)→AtsP ω X t.attempts (n+1) A' c' w'')):=h_ (fun x hx h1 hok hbx=>by
  have hatt:t.attempts=t.past++[x.toldOf t 0]:=by
   unfold PTh.attempts;rw[if_pos (by omega),hx];simp only;rw[if_pos hbx]
  refine⟨by rw[hatt,List.length_append,hn];rfl,fun w1 A c h2=>?_⟩
  obtain⟨xs,G,h3,h4⟩:=h2.row;obtain⟨T,hT⟩:∃T,x.toldOf t 0=T:=⟨_,rfl⟩;have hat:t.attempts[n]?=some T:=by
   rw[hatt,hT,List.getElem?_append_right (by omega),hn];simp
  refine⟨T.thread,T.job,T.try_,T.kind,T.err,T.begin,T.stamp,T.born,T.ended,⟨T.slate.toArray⟩,T.reads.length,T.cells.length,xs,?_⟩;have h5:Sat ω w1 (thX b s t D t.job*(powH*(F*(row 52 14 (.slice A n c) n xs*G)))):=h3.perm (by rw[hX];ac_rfl)
  refine(th_told ω w1 _ b s t D x hx h5 hok.v hok.regs hok.out hok.items 0).mono ?_;rintro e w2 ⟨q,rfl,h6⟩;rw[hT] at h6 ⊢;obtain⟨q1,q2⟩:=q;have h7:Sat ω w2 (row 54 2 q1 T.reads.length (vS T.reads)*(row 54 2 q2 T.cells.length (vS T.cells)*(thX b s t D t.job*(powH*(F*(row 52 14 (.slice A n c) n xs*G)))))):=h6.perm (by unfold toH;simp only;ac_rfl)
  obtain⟨B1,d1,rfl⟩:=h7.rowForm;obtain⟨B2,d2,rfl⟩:=h7.right.rowForm;refine⟨B1,d1,B2,d2,rfl,G*(toH (.slice B1 T.reads.length d1,.slice B2 T.cells.length d2) T*X),h6.perm (by rw[hX];ac_rfl),fun w'' A' c'' h8=>h4 w'' A' c'' B1 B2 d1 d2 T hat h8⟩)
 have HBG:Hid (∀x,t.now=some x→∀(w1:World),Sat ω w1 (thX b s t D t.job*(powH*F))→Calls Tryz.prog 61 #[.pointer (some ⟨D.nb,0,none⟩)] w1 fun e w'=>e=.returned (.tuple #[.int .u64 x.begin,.bool x.begun])∧∃q,w'=w1.drewN q):=h_ (fun x hx w1 h1=>by
  obtain⟨G,g1,_⟩:=thX_at h1 hx;exact at_begin ω w1 G D.nb s x g1)
 have HNV:Hid (∀x,t.now=some x→nowV D.nb t.now=pV D.nb):=h_ (fun x hx=>by rw[hx];rfl)
 have HNW:Hid (st=1→∃x,t.now=some x∧EndOk x):=h_ (fun h1=>hnow (hs.trans h1))
 have HS:=h_ hs;obtain⟨m,hm⟩:∃m,t.attempts.length=m:=⟨_,rfl⟩;rw[hm] at HEND HTL ⊢;have HM:=h_ hm;clear h hb hrow hpv hi0 hz0 hz1 hz2 hn hst hnow hpo hs hm hX;go_enter Tryz.func41,Tryz.ntmps41;go_wp2;go_loopw [3,5,13] (fun v3 _ i wr=>∃(k:Nat) (A:Option Addr) (c:Nat),k≤n∧i=.int .i64 k∧v3=.slice A k c∧Hid (AtsP ω X t.attempts k A c wr)) (fun _ _ i _=>n-(intOf i).toNat)
 case atStart=>exact⟨0,none,0,by omega,rfl,rfl,HSTART.o⟩
 case round =>
  obtain⟨k,A,c,hk,rfl,rfl,HA⟩:=hrel;by_cases hlt:k<n
  ·obtain⟨thread,job,try_,kind,err,begin,stamp,born,ended,sl,A1,A2,n1,c1,n2,c2,g,xs,rfl,hg,⟨l0,l1,l2,l3,l4,l5,l6,l7,l8,l9,l10,l11,l12,l13⟩,_,hco⟩:=HRO.o k hlt wr A c HA.o;have HCO:=h_ hco;clear hco;go_wp2_with (first
    |(go_at_call 69;refine(HCO.o).mono ?_;rintro e w1 ⟨B1,d1,B2,d2,rfl,Z,hs,hf⟩;have HSa:=h_ hs;have HF:=h_ hf;clear hs hf)
    |(at_builtin;refine wpList_append_sat rfl _ _ 47 rfl 52 i0 _ 14 168 Tryz.underlying47 HI.o HZ0.o HZ1.o HZ2.o rfl (by decide) _ _ _ rfl (HSa.o.junk _) _ _ _ _ _ rfl (HRD.o _ _ _ _ _ _ _ _ _ _ _ _ _ _ _ _ _) (HON.o _ _ _ _ _ _ _ _ _ _ _ _ _ _ _ _) (by unfold maxLen;first|done|omega) (by first|done|omega) ?_;intro A' c' w2 hs;have HY:=h_ (HF.o _ _ _ hs);clear hs))
   exact⟨⟨k+1,_,_,by omega,by go_num,rfl,HY.o⟩,by simp[intOf];omega⟩
  ·obtain rfl:k=n:=by omega
   obtain⟨hE1,hE2⟩:=HEND.o wr A c HA.o;have HSX:=h_ hE1;have kB:=HBK.o _ hE1;have qf:=kB.frozen;have ql:=kB.lt;have q11:wr.cell? ⟨b,11,none⟩=some (.int .i64 st):=by rw[←HS.o];exact kB.cell 11
   have q16':wr.cell? ⟨b,16,none⟩=some (nowV D.nb t.now):=kB.cell 16;have HQ16:=h_ q16';clear hE1 kB q16';by_cases h1:st=1
   ·have d1:((st:Int)==1)=true:=by rw[h1];rfl
    obtain⟨x,hx,hok⟩:=HNW.o h1;have q16:wr.cell? ⟨b,16,none⟩=some (.pointer (some ⟨D.nb,0,none⟩)):=by have e:=HQ16.o;rw[HNV.o x hx] at e;exact e
    have HB:=h_ (HBG.o x hx wr HSX.o);cases hbx:x.begun
    ·have hmk:=hE2 (.inr ⟨x,hx,hbx⟩);subst hmk;rw[hbx] at HB;have HZ:Hid (∀q,AtsP ω (thH b s t*(powH*F)) t.attempts t.attempts.length A c (wr.drewN q)):=h_ (fun q=>by rw[HM.o];exact(HFIN.o wr A c _ HM.o HA.o).drewN q)
     clear hE2 hx hbx hok h1 HQ16 HEND HTL HRO;go_wp2_with (go_at_call 61;refine(HB.o).mono ?_;rintro e w1 ⟨rfl,q,rfl⟩);go_ret;exact⟨A,c,rfl,by have:=HZ.o q;rw[HM.o] at this;exact this⟩
    ·obtain⟨hmk,htl⟩:=HTL.o x hx h1 hok hbx;subst hmk;rw[hbx] at HB;have HTX:Hid (∀q,∃(thread job try_ kind err begin stamp born ended:Nat) (sl:ByteArray) (n1 n2:Nat) (xs:List Value),Calls Tryz.prog 70 #[.pointer (some ⟨b,0,none⟩),.int .i64 0] (wr.drewN q) (fun e w'=>∃B1 d1 B2 d2,e=.returned (.agg #[.int .i64 thread,.int .i64 job,.int .i64 try_,.bool false,.int .i64 kind,.int .i64 err,.int .u64 begin,.int .u64 stamp,.int .i64 born,.int .i64 ended,.slice B1 n1 d1,.slice B2 n2 d2,.slice none 0 0,.string sl])∧∃Z,Sat ω w' (row 52 14 (.slice A k c) k xs*Z)∧∀w'' A' c',Sat ω w'' (row 52 14 (.slice A' (k+1) c') (k+1) (xs++[.int .i64 thread,.int .i64 job,.int .i64 try_,.bool false,.int .i64 kind,.int .i64 err,.int .u64 begin,.int .u64 stamp,.int .i64 born,.int .i64 ended,.slice B1 n1 d1,.slice B2 n2 d2,.slice none 0 0,.string sl])*Z)→AtsP ω X t.attempts (k+1) A' c' w'')):=h_ (fun q=>htl (wr.drewN q) A c (HA.o.drewN q))
     clear hE2 hx hbx hok h1 HQ16 HEND HTL HRO htl;go_wp2_with (first
      |(go_at_call 61;refine(HB.o).mono ?_;rintro e w1 ⟨rfl,q,rfl⟩;obtain⟨thread,job,try_,kind,err,begin,stamp,born,ended,sl,n1,n2,xs,hto⟩:=HTX.o q;have HT9:=h_ hto;clear hto)
      |(go_at_call 70;refine(HT9.o).mono ?_;rintro e w1 ⟨B1,d1,B2,d2,rfl,Z,hs,hf⟩;have HSa:=h_ hs;have HF:=h_ hf;clear hs hf)
      |(at_builtin;refine wpList_append_sat rfl _ _ 47 rfl 52 i0 _ 14 168 Tryz.underlying47 HI.o HZ0.o HZ1.o HZ2.o rfl (by decide) _ _ _ rfl (HSa.o.junk _) _ _ _ _ _ rfl (HRD.o _ _ _ _ _ _ _ _ _ _ _ _ _ _ _ _ _) (HON.o _ _ _ _ _ _ _ _ _ _ _ _ _ _ _ _) (by unfold maxLen;first|done|omega) (by first|done|omega) ?_;intro A' c' w2 hs;have HY:=h_ (HF.o _ _ _ hs);clear hs))
     go_ret;exact⟨_,_,rfl,HFIN.o _ _ _ _ HM.o HY.o⟩
   ·have d1:((st:Int)==1)=false:=by rw[beq_eq_false_iff_ne];omega
    have hmk:=hE2 (.inl h1);subst hmk;have HZ:=h_ (HFIN.o wr A c _ HM.o HA.o);clear hE2 h1 HQ16 HEND HTL HRO;go_wp2;go_ret;exact⟨A,c,rfl,HZ.o⟩
theorem limbo_new (ω w:World)(F:HP)(h:Sat ω w F):
  Calls Tryz.prog 56 #[] w fun e w'=>∃lb,e=.returned (.pointer (some ⟨lb,0,none⟩))∧Sat ω w' (bk lb 188 #[.slice none 0 0]*F):=by
 have H:=h_ h;go_enter Tryz.func56,Tryz.ntmps56;go_wp2;go_ret;exact⟨_,rfl,H.o.new _ _⟩
def jobsH (A:Option Addr)(c:Nat)(l:List (List PIns)):HP:=ex fun js=>fact (js.length=l.length)*(row 32 1 (.slice A l.length c) l.length (jbV js l)*jbAll js l)
theorem jbV_snoc (B:Option Addr)(d:Nat)(p:List PIns):∀(js:List (Option Addr×Nat)) (l:List (List PIns)),js.length=l.length→jbV (js++[(B,d)]) (l++[p])=jbV js l++[.slice B p.length d]∧jbAll (js++[(B,d)]) (l++[p])=jbAll js l*prH B d p
 | [],[],_=>by
  refine⟨rfl,?_⟩;show prH B d p*emp=emp*prH B d p
  exact star_comm _ _
 |a::js,q::l,h=>by
  obtain⟨h1,h2⟩:=jbV_snoc B d p js l (by simpa using h)
  refine⟨?_,?_⟩
  ·show Value.slice a.1 q.length a.2::jbV (js++[(B,d)]) (l++[p])=_
   rw[h1];rfl
  ·show prH a.1 a.2 q*jbAll (js++[(B,d)]) (l++[p])=(prH a.1 a.2 q*jbAll js l)*prH B d p
   rw[h2];ac_rfl
def jobG (b:Nat)(s:PSt)(t:PTh)(D:ThD)(j:Int):HP:=bk b 138 (thC s t D j)*(nowH s D.nb t.now*(jbAll D.js t.jobs*((fact (D.ps.length=t.past.length)*(row 52 14 D.pv t.past.length (toVs D.ps t.past)*toAll D.ps t.past))*(row 66 4 D.rv t.results.length (t.results.flatMap reV)*bk D.lb 188 #[.slice none 0 0]))))
theorem thX_jobs {ω w:World}{F:HP}{b:Nat}{s:PSt}{t:PTh}{D:ThD}{j:Int}(h:Sat ω w (thX b s t D j*F)):D.js.length=t.jobs.length∧Sat ω w (row 32 1 (.slice D.jA t.jobs.length D.jc) t.jobs.length (jbV D.js t.jobs)*(jobG b s t D j*F)):=by
 unfold thX thT thJ at h;have h1:Sat ω w (fact (D.js.length=t.jobs.length)*(row 32 1 (.slice D.jA t.jobs.length D.jc) t.jobs.length (jbV D.js t.jobs)*(jobG b s t D j*F))):=h.perm (by unfold jobG;ac_rfl)
 exact h1.of_fact
theorem jobG_blk {ω w:World}{F R:HP}{b:Nat}{s:PSt}{t:PTh}{D:ThD}{j:Int}(h:Sat ω w (R*(jobG b s t D j*F))):Blk w b 138 (thC s t D j):=by
 have h1:=h.right;unfold jobG at h1;exact h1.assoc.blk
theorem thX_put9 {ω w:World}{F:HP}{b:Nat}{s:PSt}{t:PTh}{D:ThD}{j:Int}{p:List PIns}{A B:Option Addr}{n c d:Nat}(hn:t.jobs.length=n)(hl:D.js.length=t.jobs.length)
  (h:Sat ω w (row 32 1 (.slice A (n+1) c) (n+1) (jbV D.js t.jobs++[.slice B p.length d])*(jobG b s t D j*(prH B d p*F)))):
  Sat ω (w.setCell ⟨b,9,none⟩ (.slice A (n+1) c)) (thX b s { t with jobs:=t.jobs++[p] } { D with jA:=A,jc:=c,js:=D.js++[(B,d)] } j*F):=by
 unfold jobG at h;have h0:Sat ω w (bk b 138 (thC s t D j)*(row 32 1 (.slice A (n+1) c) (n+1) (jbV D.js t.jobs++[.slice B p.length d])*(nowH s D.nb t.now*(jbAll D.js t.jobs*(((fact (D.ps.length=t.past.length)*(row 52 14 D.pv t.past.length (toVs D.ps t.past)*toAll D.ps t.past))*(row 66 4 D.rv t.results.length (t.results.flatMap reV)*bk D.lb 188 #[.slice none 0 0]))*(prH B d p*F)))))):=h.perm (by ac_rfl)
 have e3:(t.jobs++[p]).length=n+1:=by simp[hn]
 have h2:=h0.put 9 (.slice A (n+1) c) (cs':=thC s { t with jobs:=t.jobs++[p] } { D with jA:=A,jc:=c,js:=D.js++[(B,d)] } j) (by unfold thC;simp only[e3];rfl)
 obtain⟨e1,e2⟩:=jbV_snoc B d p D.js t.jobs hl;unfold thX thT thJ;simp only;rw[e1,e2,e3];have h3:=h2.to_fact (p:=(D.js++[(B,d)]).length=n+1) (by simp[hl,hn])
 refine h3.perm ?_;unfold nowH;ac_rfl
theorem infoProg_:(Tryz.prog.info? 32).map (fun i=>(i.zero,i.size,i.bytes))=some (some (.agg #[.slice none 0 0]),1,24):=by kernel_rfl
def th0 (me:Nat)(jobs:List (List PIns)):PTh:={ me:=me,jobs:=jobs,job:=0,state:=0,tries:=0,conflicts:=0,now:=none,born:=0,alarmed:=false,past:=[],results:=[],by_:=0,since:=0,yielding:=false,pauses:=0 }
theorem row_cap {ω w:World}{F:HP}{e:TypeId}{size n c:Nat}{A:Option Addr}{xs:List Value}(h:Sat ω w (row e size (.slice A n c) n xs*F)):n≤c:=by
 rcases h.cases with⟨h1,h2,_⟩|⟨g,cap,cur,h1,h2,_⟩
 ·omega
 ·injection h1 with _ _ h3
  omega
theorem jobsH_cap {ω w:World}{F:HP}{A:Option Addr}{c:Nat}{l:List (List PIns)}(h:Sat ω w (jobsH A c l*F)):l.length≤c:=by
 obtain⟨js,h⟩:=h.of_ex;exact row_cap (h.assoc.of_fact.2.assoc)
theorem fact_true {p:Prop}(h:p):fact p=emp:=HP.ext fun x=>⟨fun hx=>hx.2,fun hx=>⟨h,hx⟩⟩
def d0 (lb:Nat):ThD:=⟨none,0,[],0,.slice none 0 0,[],.slice none 0 0,lb⟩
theorem thX_zero (tb lb me:Nat)(s:PSt):thX tb s (th0 me []) (d0 lb) (-1)=bk tb 138 (thC s (th0 me []) (d0 lb) (-1))*(row 32 1 (.slice none 0 0) 0 []*(row 52 14 (.slice none 0 0) 0 []*(row 66 4 (.slice none 0 0) 0 []*bk lb 188 #[.slice none 0 0]))):=by
 unfold thX thT thJ;have e1:fact ((d0 lb).js.length=(th0 me []).jobs.length)=emp:=fact_true rfl;have e2:fact ((d0 lb).ps.length=(th0 me []).past.length)=emp:=fact_true rfl;rw[e1,e2];show _*(emp*((emp*(row 32 1 (.slice none 0 0) 0 []*emp))*((emp*(row 52 14 (.slice none 0 0) 0 []*emp))*(row 66 4 (.slice none 0 0) 0 []*bk lb 188 #[.slice none 0 0]))))=_
 simp only[emp_star,star_emp]
def PrgS (N:Nat)(CS:Array Value)(w:World):Prop:=Blk w N 32 CS
def BoxS (N:Nat)(CS:Array Value)(w:World):Prop:=Blk w N 39 CS
theorem th_new (ω w:World)(F:HP)(me:Nat)(s:PSt)(hs:s.kept)(hme:me+1≤s.threads)(A:Option Addr)(c:Nat)(l:List (List PIns))(hl:l.length≤6)(hp:∀p∈l,p.length≤40∧okP p=true)(h:Sat ω w (jobsH A c l*F)):
  Calls Tryz.prog 36 #[.int .i64 me,.agg #[.int .i64 s.words,.int .i64 s.stripes,.int .i64 s.wide,.int .i64 s.threads,.int .u64 s.start,.int .i64 s.spins,.int .i64 s.writes,.int .i64 s.fuel],.slice A l.length c] w fun e w'=>∃b,e=.returned (.pointer (some ⟨b,0,none⟩))∧Sat ω w' (thH b s (PTh.new me s l)*(jobsH A c l*F)):=by
 obtain⟨n,hn⟩:∃n,l.length=n:=⟨_,rfl⟩;obtain⟨N,hN⟩:∃N,w.heap.size=N:=⟨_,rfl⟩;have hcap:(n:Int)≤(c:Int):=by have:=jobsH_cap h;omega
 obtain⟨js,h⟩:=h.of_ex;obtain⟨hjl,h⟩:=h.assoc.of_fact;obtain⟨X,hX⟩:∃X:HP,X=row 32 1 (.slice A l.length c) l.length (jbV js l)*(jbAll js l*F):=⟨_,rfl⟩;have HXJ:Hid (∀w1 P,Sat ω w1 (P*X)→Sat ω w1 (P*(jobsH A c l*F))):=h_ (fun w1 P h1=>by
  have h2:Sat ω w1 (fact (js.length=l.length)*((row 32 1 (.slice A l.length c) l.length (jbV js l)*jbAll js l)*(P*F))):=Sat.to_fact hjl (h1.perm (by rw[hX];ac_rfl))
  have h3:Sat ω w1 (jobsH A c l*(P*F)):=Sat.to_ex js h2.assoc';exact h3.swap)
 have HB0:Hid (Sat ω (w.alloc (.cells #[.int .i64 s.words,.int .i64 s.stripes,.int .i64 s.wide,.int .i64 s.threads,.int .u64 s.start,.int .i64 s.spins,.int .i64 s.writes,.int .i64 s.fuel] 39)) (bk N 39 #[.int .i64 s.words,.int .i64 s.stripes,.int .i64 s.wide,.int .i64 s.threads,.int .u64 s.start,.int .i64 s.spins,.int .i64 s.writes,.int .i64 s.fuel]*X)):=h_ (by
  rw[hX,←hN];exact h.assoc.new _ _)
 have HHE:Hid (Calls Tryz.prog 32 #[.agg #[.int .i64 s.words,.int .i64 s.stripes,.int .i64 s.wide,.int .i64 s.threads,.int .u64 s.start,.int .i64 s.spins,.int .i64 s.writes,.int .i64 s.fuel]] (w.alloc (.cells #[.int .i64 s.words,.int .i64 s.stripes,.int .i64 s.wide,.int .i64 s.threads,.int .u64 s.start,.int .i64 s.spins,.int .i64 s.writes,.int .i64 s.fuel] 39)) fun e w'=>e=.returned (.agg #[.int .i64 s.words,.int .i64 s.stripes,.int .i64 s.wide,.int .i64 s.threads,.int .u64 s.start,.int .i64 s.spins,.int .i64 s.writes,.int .i64 s.fuel])∧Sat ω w' (bk N 39 #[.int .i64 s.words,.int .i64 s.stripes,.int .i64 s.wide,.int .i64 s.threads,.int .u64 s.start,.int .i64 s.spins,.int .i64 s.writes,.int .i64 s.fuel]*X)):=h_ (by
  refine(held_kept _ s hs).mono ?_;rintro e w2 ⟨rfl,ho⟩;exact⟨rfl,HB0.o.nob ho⟩)
 have HB2:Hid (∀w1,Sat ω w1 (bk N 39 #[.int .i64 s.words,.int .i64 s.stripes,.int .i64 s.wide,.int .i64 s.threads,.int .u64 s.start,.int .i64 s.spins,.int .i64 s.writes,.int .i64 s.fuel]*X)→Sat ω ((((((((w1.setCell ⟨N,0,none⟩ (.int .i64 s.words)).setCell ⟨N,1,none⟩ (.int .i64 s.stripes)).setCell ⟨N,2,none⟩ (.int .i64 s.wide)).setCell ⟨N,3,none⟩ (.int .i64 s.threads)).setCell ⟨N,4,none⟩ (.int .u64 s.start)).setCell ⟨N,5,none⟩ (.int .i64 s.spins)).setCell ⟨N,6,none⟩ (.int .i64 s.writes)).setCell ⟨N,7,none⟩ (.int .i64 s.fuel)) (bk N 39 #[.int .i64 s.words,.int .i64 s.stripes,.int .i64 s.wide,.int .i64 s.threads,.int .u64 s.start,.int .i64 s.spins,.int .i64 s.writes,.int .i64 s.fuel]*X)):=h_ (fun w1 h1=>((((((((h1.put 0 (.int .i64 s.words) (cs':=#[.int .i64 s.words,.int .i64 s.stripes,.int .i64 s.wide,.int .i64 s.threads,.int .u64 s.start,.int .i64 s.spins,.int .i64 s.writes,.int .i64 s.fuel]) rfl).put 1 (.int .i64 s.stripes) (cs':=#[.int .i64 s.words,.int .i64 s.stripes,.int .i64 s.wide,.int .i64 s.threads,.int .u64 s.start,.int .i64 s.spins,.int .i64 s.writes,.int .i64 s.fuel]) rfl).put 2 (.int .i64 s.wide) (cs':=#[.int .i64 s.words,.int .i64 s.stripes,.int .i64 s.wide,.int .i64 s.threads,.int .u64 s.start,.int .i64 s.spins,.int .i64 s.writes,.int .i64 s.fuel]) rfl).put 3 (.int .i64 s.threads) (cs':=#[.int .i64 s.words,.int .i64 s.stripes,.int .i64 s.wide,.int .i64 s.threads,.int .u64 s.start,.int .i64 s.spins,.int .i64 s.writes,.int .i64 s.fuel]) rfl).put 4 (.int .u64 s.start) (cs':=#[.int .i64 s.words,.int .i64 s.stripes,.int .i64 s.wide,.int .i64 s.threads,.int .u64 s.start,.int .i64 s.spins,.int .i64 s.writes,.int .i64 s.fuel]) rfl).put 5 (.int .i64 s.spins) (cs':=#[.int .i64 s.words,.int .i64 s.stripes,.int .i64 s.wide,.int .i64 s.threads,.int .u64 s.start,.int .i64 s.spins,.int .i64 s.writes,.int .i64 s.fuel]) rfl).put 6 (.int .i64 s.writes) (cs':=#[.int .i64 s.words,.int .i64 s.stripes,.int .i64 s.wide,.int .i64 s.threads,.int .u64 s.start,.int .i64 s.spins,.int .i64 s.writes,.int .i64 s.fuel]) rfl).put 7 (.int .i64 s.fuel) (cs':=#[.int .i64 s.words,.int .i64 s.stripes,.int .i64 s.wide,.int .i64 s.threads,.int .u64 s.start,.int .i64 s.spins,.int .i64 s.writes,.int .i64 s.fuel]) rfl))
 have HBK:Hid (∀w1,Sat ω w1 (bk N 39 #[.int .i64 s.words,.int .i64 s.stripes,.int .i64 s.wide,.int .i64 s.threads,.int .u64 s.start,.int .i64 s.spins,.int .i64 s.writes,.int .i64 s.fuel]*X)→Blk w1 N 39 #[.int .i64 s.words,.int .i64 s.stripes,.int .i64 s.wide,.int .i64 s.threads,.int .u64 s.start,.int .i64 s.spins,.int .i64 s.writes,.int .i64 s.fuel]):=h_ (fun w1 h1=>h1.blk)
 have HLI:Hid (∀w1,Sat ω w1 (bk N 39 #[.int .i64 s.words,.int .i64 s.stripes,.int .i64 s.wide,.int .i64 s.threads,.int .u64 s.start,.int .i64 s.spins,.int .i64 s.writes,.int .i64 s.fuel]*X)→Calls Tryz.prog 56 #[] w1 fun e w'=>∃lb,e=.returned (.pointer (some ⟨lb,0,none⟩))∧Sat ω w' (bk lb 188 #[.slice none 0 0]*(bk N 39 #[.int .i64 s.words,.int .i64 s.stripes,.int .i64 s.wide,.int .i64 s.threads,.int .u64 s.start,.int .i64 s.spins,.int .i64 s.writes,.int .i64 s.fuel]*X))):=h_ (fun w1 h1=>limbo_new ω w1 _ h1)
 have HBL:Hid (∀w1 lb,Sat ω w1 (bk lb 188 #[.slice none 0 0]*(bk N 39 #[.int .i64 s.words,.int .i64 s.stripes,.int .i64 s.wide,.int .i64 s.threads,.int .u64 s.start,.int .i64 s.spins,.int .i64 s.writes,.int .i64 s.fuel]*X))→Blk w1 N 39 #[.int .i64 s.words,.int .i64 s.stripes,.int .i64 s.wide,.int .i64 s.threads,.int .u64 s.start,.int .i64 s.spins,.int .i64 s.writes,.int .i64 s.fuel]):=h_ (fun w1 lb h1=>h1.right.blk)
 have HTH:Hid (∀w1 lb,Sat ω w1 (bk lb 188 #[.slice none 0 0]*(bk N 39 #[.int .i64 s.words,.int .i64 s.stripes,.int .i64 s.wide,.int .i64 s.threads,.int .u64 s.start,.int .i64 s.spins,.int .i64 s.writes,.int .i64 s.fuel]*X))→∃D,Sat ω (w1.alloc (.cells #[.int .i64 me,.int .i64 s.words,.int .i64 s.stripes,.int .i64 s.wide,.int .i64 s.threads,.int .u64 s.start,.int .i64 s.spins,.int .i64 s.writes,.int .i64 s.fuel,.slice none 0 0,.int .i64 (-1),.int .i64 0,.bool false,.slice none 0 0,.int .i64 0,.int .i64 0,.pointer none,.int .i64 0,.bool false,.slice none 0 0,.slice none 0 0,.pointer (some ⟨lb,0,none⟩),.slice none 0 0,.int .i64 0,.int .u64 0,.bool false,.int .i64 0] 138)) (thX w1.heap.size s (th0 me (l.take 0)) D (-1)*X)):=h_ (fun w1 lb h1=>by
  have h3:Sat ω w1 (bk lb 188 #[.slice none 0 0]*X):=h1.swap.right;have h4:=((((h3.nil 66 4).nil 52 14).nil 32 1).new #[.int .i64 me,.int .i64 s.words,.int .i64 s.stripes,.int .i64 s.wide,.int .i64 s.threads,.int .u64 s.start,.int .i64 s.spins,.int .i64 s.writes,.int .i64 s.fuel,.slice none 0 0,.int .i64 (-1),.int .i64 0,.bool false,.slice none 0 0,.int .i64 0,.int .i64 0,.pointer none,.int .i64 0,.bool false,.slice none 0 0,.slice none 0 0,.pointer (some ⟨lb,0,none⟩),.slice none 0 0,.int .i64 0,.int .u64 0,.bool false,.int .i64 0] 138);refine⟨d0 lb,?_⟩;rw[List.take_zero,thX_zero];have e:thC s (th0 me []) (d0 lb) (-1)=#[.int .i64 me,.int .i64 s.words,.int .i64 s.stripes,.int .i64 s.wide,.int .i64 s.threads,.int .u64 s.start,.int .i64 s.spins,.int .i64 s.writes,.int .i64 s.fuel,.slice none 0 0,.int .i64 (-1),.int .i64 0,.bool false,.slice none 0 0,.int .i64 0,.int .i64 0,.pointer none,.int .i64 0,.bool false,.slice none 0 0,.slice none 0 0,.pointer (some ⟨lb,0,none⟩),.slice none 0 0,.int .i64 0,.int .u64 0,.bool false,.int .i64 0]:=rfl;rw[e];exact h4.perm (by ac_rfl))
 have hthr:s.threads≤4:=hs.t2;have hmax:max (0:Int) (min (me:Int) ((s.threads:Int)-1))=(me:Int):=by omega
 have hmin:min (n:Int) 6=(n:Int):=by omega
 have HS:=h_ hs;have hXd:=h_ hX;have hJL:=h_ hjl;obtain⟨Y,hY⟩:∃Y:HP,Y=jobsH A c l*F:=⟨_,rfl⟩;rw[←hY] at HXJ ⊢;rw[hn] at hl ⊢;have HNN:=h_ hn;have HP:=h_ hp;go_enter Tryz.func36,Tryz.ntmps36;go_wp2_with (go_at_call 32;refine(HHE.o).mono ?_;rintro e w1 ⟨rfl,hs⟩;have kN:=HBK.o _ hs;have nf:=kN.frozen;have nl:=kN.lt;have n0:=kN.c 0;have n1:=kN.c 1;have n2:=kN.c 2;have n3:=kN.c 3;have n4:=kN.c 4;have n5:=kN.c 5;have n6:=kN.c 6;have n7:=kN.c 7;have HH:=h_ (HB2.o _ hs));generalize ((((((((w1.setCell ⟨N,0,none⟩ (.int .i64 s.words)).setCell ⟨N,1,none⟩ (.int .i64 s.stripes)).setCell ⟨N,2,none⟩ (.int .i64 s.wide)).setCell ⟨N,3,none⟩ (.int .i64 s.threads)).setCell ⟨N,4,none⟩ (.int .u64 s.start)).setCell ⟨N,5,none⟩ (.int .i64 s.spins)).setCell ⟨N,6,none⟩ (.int .i64 s.writes)).setCell ⟨N,7,none⟩ (.int .i64 s.fuel))=wC at *
 have HD:=h_ (HH.o.drewN 1);have HS0:BoxS N #[.int .i64 s.words,.int .i64 s.stripes,.int .i64 s.wide,.int .i64 s.threads,.int .u64 s.start,.int .i64 s.spins,.int .i64 s.writes,.int .i64 s.fuel] wC.drew:=HBK.o _ HD.o;refine gN (BoxS N #[.int .i64 s.words,.int .i64 s.stripes,.int .i64 s.wide,.int .i64 s.threads,.int .u64 s.start,.int .i64 s.spins,.int .i64 s.writes,.int .i64 s.fuel]) HS0 fun hh0=>?_
 refine tH 0 ?_ rfl ?_ (tH 1 ?_ rfl ?_ (tH 2 ?_ rfl ?_ (tH 3 ?_ rfl ?_ (tH 4 ?_ rfl ?_ (tH 5 ?_ rfl ?_ (tH 6 ?_ rfl ?_ (tH 7 ?_ rfl ?_ ?_)))))));all_goals (try (
  intro w hSw;have jl:=hSw.lt;have jf:=hSw.frozen;have j0:=hSw.c 0;have j1:=hSw.c 1;have j2:=hSw.c 2;have j3:=hSw.c 3;have j4:=hSw.c 4;have j5:=hSw.c 5;have j6:=hSw.c 6;have j7:=hSw.c 7;try simp only[sP]
  go_simp<;>(try with_reducible rfl)))
 try simp only[sP]
 refine oH 8 rfl fun K hK=>?_
 go_simp;go_at_call 56;refine(HLI.o _ HD.o).mono ?_;rintro e wL ⟨lb,rfl,hs⟩;have HL:=h_ hs;(try go_wp2_with fail);refine hK.q ?_ fun hh1=>?_
 ·exact HBL.o _ _ HL.o
 try simp only[sP]
 refine tH 9 ?_ rfl ?_ ?_;all_goals (try (
  intro w hSw;have jl:=hSw.lt;have jf:=hSw.frozen;have j0:=hSw.c 0;have j1:=hSw.c 1;have j2:=hSw.c 2;have j3:=hSw.c 3;have j4:=hSw.c 4;have j5:=hSw.c 5;have j6:=hSw.c 6;have j7:=hSw.c 7;go_simp<;>(try with_reducible rfl)))
 try simp only[sP]
 refine oH 10 rfl fun K hK=>?_
 go_simp;(try go_wp2_with fail);refine hK.q ?_ fun hh2=>?_
 ·exact(HBL.o _ _ HL.o).alloc _
 try simp only[sP]
 refine tH 11 ?_ rfl ?_ ?_;all_goals (try (
  intro w hSw;have jl:=hSw.lt;have jf:=hSw.frozen;have j0:=hSw.c 0;have j1:=hSw.c 1;have j2:=hSw.c 2;have j3:=hSw.c 3;have j4:=hSw.c 4;have j5:=hSw.c 5;have j6:=hSw.c 6;have j7:=hSw.c 7;go_simp<;>(try with_reducible rfl)))
 try simp only[sP]
 refine dN ?_;obtain⟨D0,hth⟩:=HTH.o _ _ HL.o;have HT0:=h_ hth;go_wp2;generalize (wL.alloc (.cells #[.int .i64 me,.int .i64 s.words,.int .i64 s.stripes,.int .i64 s.wide,.int .i64 s.threads,.int .u64 s.start,.int .i64 s.spins,.int .i64 s.writes,.int .i64 s.fuel,.slice none 0 0,.int .i64 (-1),.int .i64 0,.bool false,.slice none 0 0,.int .i64 0,.int .i64 0,.pointer none,.int .i64 0,.bool false,.slice none 0 0,.slice none 0 0,.pointer (some ⟨lb,0,none⟩),.slice none 0 0,.int .i64 0,.int .u64 0,.bool false,.int .i64 0] 138))=wM at *
 generalize wL.heap.size=tb at *
 have HJO:Hid (∀k,k<n→∃(p:List PIns) (m:Nat) (B:Option Addr) (d:Nat),p.length=m∧m≤40∧l.take (k+1)=l.take k++[p]∧(l.take k).length=k∧(∀w1 G,Sat ω w1 (G*X)→∃g,A=some ⟨g,0,none⟩∧g<w1.heap.size∧w1.cell? ⟨g,k,none⟩=some (.slice B m d))∧∀w2 P,Sat ω w2 (P*X)→Calls Tryz.prog 57 #[.slice B m d] w2 fun e w'=>∃B' d',e=.returned (.slice B' m d')∧Sat ω w' (prH B' d' p*(P*X))):=h_ (fun k hk=>by
  have hk2:k<l.length:=by rw[HNN.o];exact hk
  obtain⟨B,d,R,h3,h4⟩:=jbAll_at js l hJL.out k hk2;obtain⟨p,hp⟩:∃p,l.getD k []=p:=⟨_,rfl⟩;have hpk:=HP.o (l.getD k []) (by rw[gD,List.getElem?_eq_getElem hk2];exact List.getElem_mem _)
  have htk:l.take (k+1)=l.take k++[p]:=by rw[List.take_add_one,←hp,gD,List.getElem?_eq_getElem hk2];rfl
  rw[hp] at h3 h4 hpk;refine⟨p,p.length,B,d,rfl,hpk.1,htk,by simp;omega,fun w1 G h1=>?_,fun w2 P h5=>?_⟩
  ·have h2:Sat ω w1 (row 32 1 (.slice A l.length c) l.length (jbV js l)*(jbAll js l*F*G)):=h1.perm (by rw[hXd.out];ac_rfl)
   exact h2.rowCell h3
  ·have h6:Sat ω w2 (row 87 5 (.slice B p.length d) p.length (p.flatMap insV)*(R*(P*(F*row 32 1 (.slice A l.length c) l.length (jbV js l))))):=h5.perm (by rw[hXd.out,h4];unfold prH;ac_rfl)
   refine(cloneIns ω w2 _ B p.length d (p.flatMap insV) h6 (by omega) (insV_one _)).mono ?_
   rintro e w3 ⟨B',d',rfl,h7⟩;refine⟨B',d',rfl,h7.perm ?_⟩;rw[hXd.out,h4];unfold prH;ac_rfl)
 obtain⟨i0,hi0,hz⟩:=Option.map_eq_some_iff.1 infoProg_;simp only[Prod.mk.injEq] at hz;obtain⟨hz0,hz1,hz2⟩:=hz;have HI:=h_ hi0;have HZ0:=h_ hz0;have HZ1:=h_ hz1;have HZ2:=h_ hz2;go_loopw [9,29] (fun _ i wr=>∃(k:Nat) (D:ThD),k≤n∧i=.int .i64 k∧Hid (Sat ω wr (thX tb s (th0 me (l.take k)) D (-1)*X))) (fun _ i _=>n-(intOf i).toNat)
 case atStart=>exact⟨0,D0,by omega,rfl,HT0.o⟩
 case round =>
  obtain⟨k,D,hk,rfl,HR⟩:=hrel;by_cases hlt:k<n
  ·obtain⟨p,m,B,d,hpm,hm40,htk,hlk,hJ,hC⟩:=HJO.o k hlt;obtain⟨g,rfl,hg,r0⟩:=hJ wr _ HR.o;obtain⟨M,hM⟩:∃M,wr.heap.size=M:=⟨_,rfl⟩;have HT:Hid (Sat ω (wr.alloc (.cells #[.slice B m d] 32)) (bk M 32 #[.slice B m d]*(thX tb s (th0 me (l.take k)) D (-1)*X))):=h_ (by rw[←hM];exact HR.o.new _ _)
   have HTD:=h_ (HT.o.drewN 1);have HCL:Hid (∀w2 P,Sat ω w2 (P*(thX tb s (th0 me (l.take k)) D (-1)*X))→Calls Tryz.prog 57 #[.slice B m d] w2 fun e w'=>∃B' d',e=.returned (.slice B' m d')∧Sat ω w' (prH B' d' p*(P*(thX tb s (th0 me (l.take k)) D (-1)*X)))):=h_ (fun w2 P h1=>by
    refine(hC w2 (P*thX tb s (th0 me (l.take k)) D (-1)) (h1.perm (by ac_rfl))).mono ?_
    rintro e w3 ⟨B',d',rfl,h2⟩;exact⟨B',d',rfl,h2.perm (by ac_rfl)⟩)
   have kT:=thX_blk HTD.o.right;have lT:=kT.lt;have fT:=kT.frozen;have lT2:tb<M+1:=by have h9:=kT.lt;rw[←hM];simpa using h9
   have q9:((wr.alloc (.cells #[.slice B m d] 32)).drew).cell? ⟨tb,9,none⟩=some (.slice D.jA k D.jc):=by
    have h9:((wr.alloc (.cells #[.slice B m d] 32)).drew).cell? ⟨tb,9,none⟩=some (.slice D.jA (l.take k).length D.jc):=kT.cell 9;rw[hlk] at h9;exact h9
   have HPJ:Hid (∀w1 B' d',Sat ω w1 (prH B' d' p*(bk M 32 #[.slice B m d]*(thX tb s (th0 me (l.take k)) D (-1)*X)))→Sat ω w1 (row 32 1 (.slice D.jA k D.jc) k (jbV D.js (l.take k))*(jobG tb s (th0 me (l.take k)) D (-1)*(prH B' d' p*(bk M 32 #[.slice B m d]*X))))):=h_ (fun w1 B' d' h1=>by
    have h2:Sat ω w1 (thX tb s (th0 me (l.take k)) D (-1)*(prH B' d' p*(bk M 32 #[.slice B m d]*X))):=h1.perm (by ac_rfl)
    have h3:=(thX_jobs h2).2;have e:(th0 me (l.take k)).jobs.length=k:=hlk;rw[e] at h3;exact h3)
   have hDj:D.js.length=(l.take k).length:=(thX_jobs HTD.o.right).1;have HFJ:Hid (∀w1 A' c' B' d',Sat ω w1 (row 32 1 (.slice A' (k+1) c') (k+1) (jbV D.js (l.take k)++[.slice B' m d'])*(jobG tb s (th0 me (l.take k)) D (-1)*(prH B' d' p*(bk M 32 #[.slice B m d]*X))))→Blk w1 M 32 #[.slice B m d]∧Blk w1 tb 138 (thC s (th0 me (l.take k)) D (-1))∧Blk (w1.setCell ⟨tb,9,none⟩ (.slice A' (k+1) c')) M 32 #[.slice B m d]∧∃D',Sat ω (w1.setCell ⟨tb,9,none⟩ (.slice A' (k+1) c')) (thX tb s (th0 me (l.take (k+1))) D' (-1)*X)):=h_ (fun w1 A' c' B' d' h1=>by
    have h2:Sat ω w1 (bk M 32 #[.slice B m d]*(row 32 1 (.slice A' (k+1) c') (k+1) (jbV D.js (l.take k)++[.slice B' m d'])*(jobG tb s (th0 me (l.take k)) D (-1)*(prH B' d' p*X)))):=h1.perm (by ac_rfl)
    have h3:Sat ω (w1.setCell ⟨tb,9,none⟩ (.slice A' (k+1) c')) (thX tb s (th0 me (l.take (k+1))) { D with jA:=A',jc:=c',js:=D.js++[(B',d')] } (-1)*(bk M 32 #[.slice B m d]*X)):=by
     have h4:=h1;rw[←hpm] at h4;have h5:=thX_put9 (t:=th0 me (l.take k)) (p:=p) hlk hDj h4;rw[htk];rw[hpm] at h5;exact h5
    exact⟨h2.blk,jobG_blk h1,h3.swap.blk,_,h3.swap.right⟩)
   have HON:Hid (∀B' d',∀u∈([Value.slice B' m d']:List Value),u.oneCell'=true):=h_ (by intro B' d' u hu;simp at hu;subst hu;rfl)
   have HRD:Hid (∀(w1:World) B' d',Reads (w1.alloc (.cells #[.slice B' m d'] 32)) (w1.heap.size+1) 1 (some ⟨w1.heap.size,0,none⟩) 1 [.slice B' m d']):=h_ (fun w1 B' d'=>by
    have h9:=Reads.of_blk (size:=1) (n:=1) (Blk.new w1 32 #[.slice B' m d']) rfl;rw[World.size_alloc] at h9;exact h9)
   have HBM:Hid (∀w1 P R,Sat ω w1 (P*(bk M 32 #[.slice B m d]*R))→Blk w1 M 32 #[.slice B m d]):=h_ (fun w1 P R h1=>h1.right.blk)
   have HBT:Hid (∀w1 P R,Sat ω w1 (P*(R*(thX tb s (th0 me (l.take k)) D (-1)*X)))→Blk w1 tb 138 (thC s (th0 me (l.take k)) D (-1))∧w1.cell? ⟨tb,9,none⟩=some (.slice D.jA k D.jc)):=h_ (fun w1 P R h1=>by
    have h2:=thX_blk h1.right.right;refine⟨h2,?_⟩;rw[h2.cell 9];show some (Value.slice D.jA (l.take k).length D.jc)=_
    rw[hlk])
   have HS6:PrgS M #[.slice B m d] (wr.alloc (.cells #[.slice B m d] 32)).drew:=HTD.o.blk;go_wp2;refine gN (PrgS M #[.slice B m d]) HS6 fun hh0=>?_
   refine tH 0 ?_ rfl ?_ (tH 1 ?_ rfl ?_ (tH 5 ?_ rfl ?_ (tH 2 ?_ rfl ?_ (tH 6 ?_ rfl ?_ (tH 3 ?_ rfl ?_ ?_)))));all_goals (try (
    intro w hSw;have jl:=hSw.lt;have jf:=hSw.frozen;have j0:=hSw.c 0;try simp only[sP]
    go_simp<;>(try with_reducible rfl)))
   try simp only[sP]
   refine rH [4,7] ?_;refine cH rfl (fun K hK=>?_) ?_
   ·go_simp;(try go_wp2_with fail);refine hK.q ?_ fun hh1=>?_
    ·exact HS6
    try simp only[sP]
    refine oH 7 rfl fun K hK=>?_
    go_simp;go_at_call 57;refine(HCL.o _ _ HTD.o).mono ?_;rintro e wA ⟨B',d',rfl,hs⟩;have HA:=h_ hs;obtain⟨kA,qA⟩:=HBT.o _ _ _ hs;have lA:=kA.lt;have fA:=kA.frozen;have lA1:tb<wA.heap.size+1:=(by omega);have qA1:∀o,(wA.alloc o).cell? ⟨tb,9,none⟩=some (.slice D.jA k D.jc):=fun o=>(by rw[World.cell?_alloc_lt _ _ _ lA];exact qA)
    (try go_wp2_with fail);refine hK.q ?_ fun hh2=>?_
    ·exact HBM.o _ _ _ HA.o
    try simp only[sP]
    refine tH 8 ?_ rfl ?_ ?_;all_goals (try (
     intro w hSw;have jl:=hSw.lt;have jf:=hSw.frozen;have j0:=hSw.c 0;go_simp<;>(try with_reducible rfl)))
    try simp only[sP]
    refine oH 9 rfl fun K hK=>?_
    go_simp;(try go_wp2_with fail);refine hK.q ?_ fun hh3=>?_
    ·exact(HBM.o _ _ _ HA.o).alloc _
    try simp only[sP]
    refine oH 10 rfl fun K hK=>?_
    have HRW:=h_ (HPJ.o _ _ _ HA.o);refine sap 29 32 1 24 Tryz.underlying29 HI.o HZ0.o HZ1.o HZ2.o (HRW.o.junk _) (HRD.o _ _ _) (HON.o _ _) ?_;intro A' c' wB hs;obtain⟨k1,k2,k3,D',h4⟩:=HFJ.o _ _ _ _ _ hs;have HK1:=h_ k1;have HK3:=h_ k3;have HY:=h_ h4;have qf:=k2.frozen;have ql:=k2.lt;obtain⟨u9,q9b⟩:∃u,wB.cell? ⟨tb,9,none⟩=some u:=⟨_,k2.cell 9⟩;(try go_wp2_with fail);refine hK.q ?_ fun hh4=>?_
    ·exact HK1.o
    try simp only[sP]
    refine tH 11 ?_ rfl ?_ (tH 12 ?_ rfl ?_ ?_);all_goals (try (
     intro w hSw;have jl:=hSw.lt;have jf:=hSw.frozen;have j0:=hSw.c 0;try simp only[sP]
     go_simp<;>(try with_reducible rfl)))
    try simp only[sP]
    refine oH 13 rfl fun K hK=>?_
    go_simp;(try go_wp2_with fail);refine hK.q ?_ fun hh5=>?_
    ·exact HK3.o
    try simp only[sP]
    refine dN ?_;go_wp2;exact⟨⟨k+1,D',by omega,by go_num,HY.o⟩,by simp[intOf];omega⟩
   refine nH rfl fun K hK=>?_
   ·go_simp;go_at_call 57;refine(HCL.o _ _ HTD.o).mono ?_;rintro e wA ⟨B',d',rfl,hs⟩;have HA:=h_ hs;obtain⟨kA,qA⟩:=HBT.o _ _ _ hs;have lA:=kA.lt;have fA:=kA.frozen;have lA1:tb<wA.heap.size+1:=(by omega);have qA1:∀o,(wA.alloc o).cell? ⟨tb,9,none⟩=some (.slice D.jA k D.jc):=fun o=>(by rw[World.cell?_alloc_lt _ _ _ lA];exact qA)
    (try go_wp2_with fail);refine hK.q ?_ fun hh1=>?_
    ·exact HBM.o _ _ _ HA.o
    try simp only[sP]
    refine tH 8 ?_ rfl ?_ ?_;all_goals (try (
     intro w hSw;have jl:=hSw.lt;have jf:=hSw.frozen;have j0:=hSw.c 0;go_simp<;>(try with_reducible rfl)))
    try simp only[sP]
    refine rH [4,9] ?_;refine cH rfl (fun K hK=>?_) ?_
    ·go_simp;(try go_wp2_with fail);refine hK.q ?_ fun hh2=>?_
     ·exact HBM.o _ _ _ HA.o
     try simp only[sP]
     refine oH 9 rfl fun K hK=>?_
     go_simp;(try go_wp2_with fail);refine hK.q ?_ fun hh3=>?_
     ·exact(HBM.o _ _ _ HA.o).alloc _
     try simp only[sP]
     refine oH 10 rfl fun K hK=>?_
     have HRW:=h_ (HPJ.o _ _ _ HA.o);refine sap 29 32 1 24 Tryz.underlying29 HI.o HZ0.o HZ1.o HZ2.o (HRW.o.junk _) (HRD.o _ _ _) (HON.o _ _) ?_;intro A' c' wB hs;obtain⟨k1,k2,k3,D',h4⟩:=HFJ.o _ _ _ _ _ hs;have HK1:=h_ k1;have HK3:=h_ k3;have HY:=h_ h4;have qf:=k2.frozen;have ql:=k2.lt;obtain⟨u9,q9b⟩:∃u,wB.cell? ⟨tb,9,none⟩=some u:=⟨_,k2.cell 9⟩;(try go_wp2_with fail);refine hK.q ?_ fun hh4=>?_
     ·exact HK1.o
     try simp only[sP]
     refine tH 11 ?_ rfl ?_ (tH 12 ?_ rfl ?_ ?_);all_goals (try (
      intro w hSw;have jl:=hSw.lt;have jf:=hSw.frozen;have j0:=hSw.c 0;try simp only[sP]
      go_simp<;>(try with_reducible rfl)))
     try simp only[sP]
     refine oH 13 rfl fun K hK=>?_
     go_simp;(try go_wp2_with fail);refine hK.q ?_ fun hh5=>?_
     ·exact HK3.o
     try simp only[sP]
     refine dN ?_;go_wp2;exact⟨⟨k+1,D',by omega,by go_num,HY.o⟩,by simp[intOf];omega⟩
    refine nH rfl fun K hK=>?_
    ·go_simp;(try go_wp2_with fail);refine hK.q ?_ fun hh2=>?_
     ·exact(HBM.o _ _ _ HA.o).alloc _
     try simp only[sP]
     refine oH 4 rfl fun K hK=>?_
     go_simp;(try go_wp2_with fail);refine hK.q ?_ fun hh3=>?_
     ·exact(HBM.o _ _ _ HA.o).alloc _
     try simp only[sP]
     refine oH 10 rfl fun K hK=>?_
     have HRW:=h_ (HPJ.o _ _ _ HA.o);refine sap 29 32 1 24 Tryz.underlying29 HI.o HZ0.o HZ1.o HZ2.o (HRW.o.junk _) (HRD.o _ _ _) (HON.o _ _) ?_;intro A' c' wB hs;obtain⟨k1,k2,k3,D',h4⟩:=HFJ.o _ _ _ _ _ hs;have HK1:=h_ k1;have HK3:=h_ k3;have HY:=h_ h4;have qf:=k2.frozen;have ql:=k2.lt;obtain⟨u9,q9b⟩:∃u,wB.cell? ⟨tb,9,none⟩=some u:=⟨_,k2.cell 9⟩;(try go_wp2_with fail);refine hK.q ?_ fun hh4=>?_
     ·exact HK1.o
     try simp only[sP]
     refine tH 11 ?_ rfl ?_ (tH 12 ?_ rfl ?_ ?_);all_goals (try (
      intro w hSw;have jl:=hSw.lt;have jf:=hSw.frozen;have j0:=hSw.c 0;try simp only[sP]
      go_simp<;>(try with_reducible rfl)))
     try simp only[sP]
     refine oH 13 rfl fun K hK=>?_
     go_simp;(try go_wp2_with fail);refine hK.q ?_ fun hh5=>?_
     ·exact HK3.o
     try simp only[sP]
     refine dN ?_;go_wp2;exact⟨⟨k+1,D',by omega,by go_num,HY.o⟩,by simp[intOf];omega⟩
  ·obtain rfl:k=n:=by omega
   have hlk:l.take k=l:=by rw[←HNN.o];exact List.take_length
   have HFO:Hid (Calls Tryz.prog 58 #[.pointer (some ⟨tb,0,none⟩)] wr (Rets ω X (.tuple #[]) (thH tb s (PTh.new me s l)))):=h_ (by
    have h1:=HR.o;rw[hlk] at h1;have h2:=th_following ω wr X tb s (th0 me l) D (-1) 0 rfl h1 HS.o ⟨Nat.zero_le _,by show l.length≤6;rw[HNN.o];exact hl,HP.o⟩
    have e:PTh.new me s l=({ th0 me l with job:=0,tries:=0,conflicts:=0 }:PTh).again s:=by
     unfold PTh.new th0;rw[List.take_of_length_le (by rw[HNN.o];exact hl)]
    rw[e];exact h2)
   go_wp2_with (go_at_call 58;refine(HFO.o).mono ?_;rintro e w1 ⟨rfl,hs⟩;have HZ:=h_ hs);go_ret;exact⟨tb,rfl,HXJ.o _ _ HZ.o⟩
section
variable (ω w : World) (F : HP)
theorem Sat.rowFull {ω w:World}{F:HP}{e:TypeId}{size n g:Nat}{xs:List Value}(h:Sat ω w (row e size (.slice (some ⟨g,0,none⟩) n n) n xs*F)):Sat ω w (bk g e xs.toArray*F):=by
 rcases h.cases with⟨h1,_⟩|⟨g',cap,cur,h1,h2,h3,h4,h5,h6,h7⟩
 ·cases h1
 ·injection h1 with e1 e2 e3
  injection e1 with e1
  injection e1 with e1
  subst e1 e3;have e5:cur=xs.toArray:=by
   rw[←h5,←h4,←Array.length_toList,List.take_length]
  rw[←e5];exact h7
theorem made_words (n:Nat):madeCells #[Value.int .u64 0] n=(vU (List.replicate n 0)).toArray:=by
 apply Array.ext_getElem?;intro k;rcases Nat.lt_or_ge k n with h|h
 ·simp[madeCells,vU,u64V,h,Nat.mod_one]
 ·simp[madeCells,vU,u64V,h]
theorem heap_new (h:Sat ω w F)(n:Nat)(h1:32≤n)(h2:n≤256):
  Calls Tryz.prog 51 #[.int .i64 n] w fun e w'=>∃g,e=.returned (.pointer (some ⟨g,0,none⟩))∧Sat ω w' (heapH g (List.replicate n 0)*F):=by
 have hm:max (32:Int) (min (n:Int) 256)=(n:Int):=by omega
 have hmk:=fun w=>run_make_row' (P:=Tryz.prog) 58 22 (.int .u64 0) 8 Tryz.underlying58 infoWord_ rfl .i64 .i64 n (by omega) (by omega) w
 have HZ:Hid (∀w1,w1=(w.alloc (.cells (madeCells #[.int .u64 0] n) 22)).alloc (.cells #[.slice (some ⟨w.heap.size,0,none⟩) n n] 168)→Sat ω w1 (heapH (w.heap.size+1) (List.replicate n 0)*F)):=h_ (fun w1 e1=>by
  subst e1;have h3:=(h.new (madeCells #[.int .u64 0] n) 22).new #[.slice (some ⟨w.heap.size,0,none⟩) n n] 168;rw[World.size_alloc,made_words] at h3;rw[made_words];unfold heapH;refine Sat.to_ex w.heap.size ?_;rw[List.length_replicate];exact h3.assoc')
 go_enter Tryz.func51,Tryz.ntmps51;go_wp2;go_ret;exact⟨_,by simp,HZ.o _ rfl⟩
theorem ep_new (h:Sat ω w F)(n:Nat)(h1:1≤n)(h2:n≤4):
  Calls Tryz.prog 54 #[.int .i64 n] w fun e w'=>∃g,e=.returned (.pointer (some ⟨g,0,none⟩))∧Sat ω w' (epH g (List.replicate n 0)*F):=by
 have hm:max (1:Int) (min (n:Int) 4)=(n:Int):=by omega
 have hmk:=fun w=>run_make_row' (P:=Tryz.prog) 58 22 (.int .u64 0) 8 Tryz.underlying58 infoWord_ rfl .i64 .i64 n (by omega) (by omega) w
 have HZ:Hid (∀w1,w1=(w.alloc (.cells (madeCells #[.int .u64 0] n) 22)).alloc (.cells #[.slice (some ⟨w.heap.size,0,none⟩) n n] 176)→Sat ω w1 (epH (w.heap.size+1) (List.replicate n 0)*F)):=h_ (fun w1 e1=>by
  subst e1;have h3:=(h.new (madeCells #[.int .u64 0] n) 22).new #[.slice (some ⟨w.heap.size,0,none⟩) n n] 176;rw[World.size_alloc,made_words] at h3;rw[made_words];unfold epH;refine Sat.to_ex w.heap.size ?_;rw[List.length_replicate];exact h3.assoc')
 go_enter Tryz.func54,Tryz.ntmps54;go_wp2;go_ret;exact⟨_,by simp,HZ.o _ rfl⟩
theorem clk_new (h:Sat ω w F)(n:Nat)(h2:n≤4611686018427387903):
  Calls Tryz.prog 53 #[.int .u64 n] w fun e w'=>∃g,e=.returned (.pointer (some ⟨g,0,none⟩))∧Sat ω w' (clkH g n*F):=by
 have hm:min (n:Int) 4611686018427387903=(n:Int):=by omega
 have HZ:=h_ (h.new #[.int .u64 n] 174);go_enter Tryz.func53,Tryz.ntmps53;go_wp2;go_ret;exact⟨_,rfl,HZ.o⟩
theorem arr_set5 (n:Nat)(hn:32≤n):(vU (List.replicate n 0)).toArray.setIfInBounds 5 (.int .u64 14)=(vU ((List.replicate n 0).set 5 14)).toArray:=vU_set _ 5 14
theorem fresh_any (h:Sat ω w F)(n:Nat)(h1:32≤n)(h2:n≤256):
  Calls Tryz.prog 34 #[.int .i64 n] w fun e w'=>∃g,e=.returned (.slice (some ⟨g,0,none⟩) n n)∧Sat ω w' (bk g 22 (vU ((List.replicate n 0).set 5 14)).toArray*F):=by
 have hm:max (32:Int) (min (n:Int) 256)=(n:Int):=by omega
 have hmk:=fun w=>run_make_row' (P:=Tryz.prog) 58 22 (.int .u64 0) 8 Tryz.underlying58 infoWord_ rfl .i64 .i64 n (by omega) (by omega) w
 have HY:Hid (Sat ω (w.alloc (.cells ((madeCells #[.int .u64 0] n).setIfInBounds 5 (.int .u64 14)) 22)) (bk w.heap.size 22 (vU ((List.replicate n 0).set 5 14)).toArray*F)):=h_ (by
  have h3:=h.new ((madeCells #[.int .u64 0] n).setIfInBounds 5 (.int .u64 14)) 22;rw[made_words,arr_set5 n h1] at h3 ⊢;exact h3)
 have hn5:(5:Int)<(n:Int):=by omega
 have kb:Blk (w.alloc (.cells (madeCells #[.int .u64 0] n) 22)) w.heap.size 22 (madeCells #[.int .u64 0] n):=Blk.new _ _ _;have k5:(w.alloc (.cells (madeCells #[.int .u64 0] n) 22)).cell? ⟨w.heap.size,5,none⟩=some (.int .u64 0):=by
  rw[kb.cell 5,made_words];have h9:=@vU_at (List.replicate n 0) 5 (by simp;omega)
  rw[show(List.replicate n 0).getD 5 0=0 by rw[gD,List.getElem?_replicate];split<;>rfl] at h9
  simpa using h9
 have kf:=kb.frozen;have kl:=kb.lt;go_enter Tryz.func34,Tryz.ntmps34;go_wp2;go_ret;exact⟨_,rfl,HY.o⟩
theorem made_locks (n:Nat):(madeCells #[Value.int .u64 0,.bool false,.int .i64 0] (n*3)).toList=vL (List.replicate n PLk.zero):=by
 apply List.ext_getElem?;intro k;have hk:k=k / 3*3+k%3:=by omega
 rcases Nat.lt_or_ge k (n*3) with h|h
 ·have h1:=flat_at lkV 3 (fun _=>rfl) PLk.zero (List.replicate n PLk.zero) (k / 3) (k%3) (by rw[List.length_replicate];omega) (by omega)
  rw[←hk] at h1;unfold vL;rw[h1];have h2:(List.replicate n PLk.zero).getD (k / 3) PLk.zero=PLk.zero:=by
   rw[gD,List.getElem?_replicate];split<;>rfl
  rw[h2];rcases(by omega:k%3=0∨k%3=1∨k%3=2) with e|e|e<;>simp[madeCells,h,e,lkV,PLk.zero]
 ·rw[List.getElem?_eq_none (by simp[madeCells];omega),List.getElem?_eq_none]
  have:(vL (List.replicate n PLk.zero)).length=n*3:=by
   unfold vL;rw[List.length_flatMap];simp[lkV]
  omega
theorem tab_new (h:Sat ω w F)(n wide:Nat)(h1:1≤n)(h2:n≤16)(h3:1≤wide)(h4:wide≤16):
  Calls Tryz.prog 52 #[.int .i64 n,.int .i64 wide] w fun e w'=>∃g,e=.returned (.pointer (some ⟨g,0,none⟩))∧Sat ω w' (tabH g (List.replicate n PLk.zero) wide*F):=by
 obtain⟨i0,hi0,hz⟩:=Option.map_eq_some_iff.1 infoLock_;simp only[Prod.mk.injEq] at hz;obtain⟨hz0,hz1,hz2⟩:=hz;have HIF:=h_ hi0;have HZ0:=h_ hz0;have HZ1:=h_ hz1;have hby:i0.bytes*n≤281474976710656:=by rw[hz2];omega
 have H:=h_ h;have HN1:=h_ (fun w=>near_any w n h1 h2)
 have HN2:=h_ (fun w=>near_any w wide h3 h4)
 have HMF:Hid (∀w1 g,Sat ω w1 (row 93 3 (.slice (some ⟨g,0,none⟩) n n) n (madeCells (Value.agg #[.int .u64 0,.bool false,.int .i64 0]).cells (n*3)).toList*F)→Sat ω w1 (bk g 93 (vL (List.replicate n PLk.zero)).toArray*F)):=h_ (fun w1 g h9=>by
  have e:(Value.agg #[.int .u64 0,.bool false,.int .i64 0]).cells=#[Value.int .u64 0,.bool false,.int .i64 0]:=rfl;rw[e,made_locks] at h9;exact h9.rowFull)
 have HFI:Hid (∀w1 g,Sat ω w1 (bk g 93 (vL (List.replicate n PLk.zero)).toArray*F)→Sat ω (w1.alloc (.cells #[.slice (some ⟨g,0,none⟩) n n,.int .i64 wide] 172)) (tabH w1.heap.size (List.replicate n PLk.zero) wide*F)):=h_ (fun w1 g h9=>by
  have h10:=h9.new #[.slice (some ⟨g,0,none⟩) n n,.int .i64 wide] 172;unfold tabH;refine Sat.to_ex g ?_;rw[List.length_replicate];exact h10.assoc')
 go_enter Tryz.func52,Tryz.ntmps52;go_wp2;refine wp_region_any (by kernel_rfl) ?_
 try (change wpAny _ _ _ _ _ _ _ (World.drew _))
 refine tF 0 ?_ rfl ?_ (tF 3 ?_ rfl ?_ ?_);all_goals (try (
  intro w;go_simp<;>(try with_reducible rfl)))
 refine oF 1 rfl fun K hK=>?_
 go_simp;go_at_call 80;refine(HN1.o _).mono ?_;rintro e w9 ⟨rfl,rfl⟩;refine hK _ _ ?_;refine rF [2,4] ?_;refine AllReady.cons rfl (fun K hK=>?_) ?_
 ·refine step_make_sat rfl _ _ 169 rfl 93 i0 _ 3 Tryz.underlying169 HIF.o HZ0.o HZ1.o _ _ _ _ n rfl rfl rfl rfl hby (by unfold maxLen;omega) H.o.drew ?_;intro w2 hs;have HM:=h_ (HMF.o _ _ hs)
  refine hK _ _ ?_;refine oF 4 rfl fun K hK=>?_
  go_simp;go_at_call 80;refine(HN2.o _).mono ?_;rintro e w9 ⟨rfl,rfl⟩;refine hK _ _ ?_;refine tF 5 ?_ rfl ?_ ?_;all_goals (try (
   intro w;go_simp<;>(try with_reducible rfl)))
  refine oF 6 rfl fun K hK=>?_
  go_simp;refine hK _ _ ?_;refine tF 7 ?_ rfl ?_ ?_;all_goals (try (
   intro w;go_simp<;>(try with_reducible rfl)))
  refine dF ?_;go_wp2;go_ret;exact⟨_,rfl,HFI.o _ _ HM.o⟩
 refine nF rfl fun K hK=>?_
 ·go_simp;go_at_call 80;refine(HN2.o _).mono ?_;rintro e w9 ⟨rfl,rfl⟩;refine hK _ _ ?_;refine oF 2 rfl fun K hK=>?_
  refine step_make_sat rfl _ _ 169 rfl 93 i0 _ 3 Tryz.underlying169 HIF.o HZ0.o HZ1.o _ _ _ _ n rfl rfl rfl rfl hby (by unfold maxLen;omega) H.o.drew ?_;intro w2 hs;have HM:=h_ (HMF.o _ _ hs)
  refine hK _ _ ?_;refine tF 5 ?_ rfl ?_ ?_;all_goals (try (
   intro w;go_simp<;>(try with_reducible rfl)))
  refine oF 6 rfl fun K hK=>?_
  go_simp;refine hK _ _ ?_;refine tF 7 ?_ rfl ?_ ?_;all_goals (try (
   intro w;go_simp<;>(try with_reducible rfl)))
  refine dF ?_;go_wp2;go_ret;exact⟨_,rfl,HFI.o _ _ HM.o⟩
end
end Go.Proofs.YtfodmgaliclhfaaGreatDoor
