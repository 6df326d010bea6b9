/- Lemmas for TopPairs; no conditions. -/
import Derived.Test.YtfodmgaliclhfaaGreatDoorGThAtt
namespace Go.Proofs.YtfodmgaliclhfaaGreatDoor
set_option linter.unusedVariables false
set_option linter.unusedSimpArgs false
set_option maxRecDepth 100000
set_option maxHeartbeats 16000000
open Go.RowKit
def AtsP (ω:World)(X:HP)(ts:List PTo)(k:Nat)(A:Option Addr)(c:Nat)(w:World):Prop:=∃qs:List (Value×Value),qs.length=k∧Sat ω w (row 52 14 (.slice A k c) k (toVs qs (ts.take k))*(toAll qs (ts.take k)*X))
theorem AtsP.row {ω w:World}{X:HP}{ts:List PTo}{k:Nat}{A:Option Addr}{c:Nat}(h:AtsP ω X ts k A c w):∃xs G,Sat ω w (row 52 14 (.slice A k c) k xs*(G*X))∧∀(w':World) A' c' B1 B2 d1 d2 T,ts[k]?=some T→Sat ω w' (row 52 14 (.slice A' (k+1) c') (k+1) (xs++toV (.slice B1 T.reads.length d1,.slice B2 T.cells.length d2) T)*(G*(toH (.slice B1 T.reads.length d1,.slice B2 T.cells.length d2) T*X)))→AtsP ω X ts (k+1) A' c' w':=by
 obtain⟨qs,hq,h1⟩:=h;refine⟨_,_,h1,fun w' A' c' B1 B2 d1 d2 T hT h2=>⟨qs++[(.slice B1 T.reads.length d1,.slice B2 T.cells.length d2)],by simp[hq],?_⟩⟩
 have hk:k<ts.length:=(List.getElem?_eq_some_iff.1 hT).1;have e0:ts.take (k+1)=ts.take k++[T]:=by
  rw[List.take_add_one,hT];rfl
 obtain⟨e1,e2⟩:=toVs_snoc (.slice B1 T.reads.length d1,.slice B2 T.cells.length d2) T qs (ts.take k) (by simp[hq];omega)
 rw[e0,e1,e2];exact h2.perm (by ac_rfl)
theorem AtsP.drewN {ω w:World}{X:HP}{ts:List PTo}{k:Nat}{A:Option Addr}{c:Nat}(h:AtsP ω X ts k A c w)(q:Nat):AtsP ω X ts k A c (w.drewN q):=by
 obtain⟨qs,h1,h2⟩:=h;exact⟨qs,h1,h2.drewN q⟩
theorem th_attempts [Inhabited PowO](ω w:World)(F:HP)(b:Nat)(s:PSt)(t:PTh)(h:Sat ω w (thH b s t*(powH*F)))(hst:t.state=1∨t.state=2∨t.state=3∨t.state=4∨t.state=6)(hnow:t.state=1→∃x,t.now=some x∧EndOk x)(hpl:t.past.length≤100000)(hpo:∀T∈t.past,T.reads.length≤1000∧T.cells.length≤1000):
  Calls Tryz.prog 41 #[.pointer (some ⟨b,0,none⟩)] w fun e w'=>∃A c,e=.returned (.slice A t.attempts.length c)∧AtsP ω (thH b s t*(powH*F)) t.attempts t.attempts.length A c w':=by
 obtain⟨D,h⟩:=thH_of h;have hb:=thX_blk h;have kf:=hb.frozen;have kl:=hb.lt;obtain⟨n,hn⟩:∃n,t.past.length=n:=⟨_,rfl⟩;obtain⟨st,hs⟩:∃st,t.state=st:=⟨_,rfl⟩;obtain⟨X,hX⟩:∃X:HP,X=thX b s t D t.job*(powH*F):=⟨_,rfl⟩;obtain⟨_,hrow⟩:=thX_past h;obtain⟨Ap,cp,hpv⟩:=hrow.rowForm;rw[hn] at hpl hpv;have k19:w.cell? ⟨b,19,none⟩=some (.slice Ap n cp):=by rw[←hpv];exact hb.cell 19
 obtain⟨i0,hi0,hz⟩:=Option.map_eq_some_iff.1 infoAtt_;simp only[Prod.mk.injEq] at hz;obtain⟨hz0,hz1,hz2⟩:=hz;have HI:=h_ hi0;have HZ0:=h_ hz0;have HZ1:=h_ hz1;have HZ2:=h_ hz2;have HON:Hid (∀(thread job try_ kind err begin stamp born ended:Nat) (sl:ByteArray) (B1 B2:Option Addr) (n1 d1 n2 d2:Nat),∀u∈([.int .i64 thread,.int .i64 job,.int .i64 try_,.bool false,.int .i64 kind,.int .i64 err,.int .u64 begin,.int .u64 stamp,.int .i64 born,.int .i64 ended,.slice B1 n1 d1,.slice B2 n2 d2,.slice none 0 0,.string sl]:List Value),u.oneCell'=true):=h_ (by intro thread job try_ kind err begin stamp born ended sl B1 B2 n1 d1 n2 d2 u hu;simp at hu;rcases hu with rfl|rfl|rfl|rfl|rfl|rfl|rfl|rfl|rfl|rfl|rfl|rfl|rfl|rfl<;>rfl)
 have HRD:Hid (∀(w1:World) (thread job try_ kind err begin stamp born ended:Nat) (sl:ByteArray) (B1 B2:Option Addr) (n1 d1 n2 d2:Nat),Reads (w1.alloc (.cells #[.int .i64 thread,.int .i64 job,.int .i64 try_,.bool false,.int .i64 kind,.int .i64 err,.int .u64 begin,.int .u64 stamp,.int .i64 born,.int .i64 ended,.slice B1 n1 d1,.slice B2 n2 d2,.slice none 0 0,.string sl] 52)) (w1.heap.size+1) 14 (some ⟨w1.heap.size,0,none⟩) 1 [.int .i64 thread,.int .i64 job,.int .i64 try_,.bool false,.int .i64 kind,.int .i64 err,.int .u64 begin,.int .u64 stamp,.int .i64 born,.int .i64 ended,.slice B1 n1 d1,.slice B2 n2 d2,.slice none 0 0,.string sl]):=h_ (fun w1 thread job try_ kind err begin stamp born ended sl B1 B2 n1 d1 n2 d2=>by
  have h9:=Reads.of_blk (size:=14) (n:=1) (Blk.new w1 52 #[.int .i64 thread,.int .i64 job,.int .i64 try_,.bool false,.int .i64 kind,.int .i64 err,.int .u64 begin,.int .u64 stamp,.int .i64 born,.int .i64 ended,.slice B1 n1 d1,.slice B2 n2 d2,.slice none 0 0,.string sl]) rfl;rw[World.size_alloc] at h9;exact h9)
 have HRO:Hid (∀k (hk:k<n) (w1:World) A c,AtsP ω X t.attempts k A c w1→∃(thread job try_ kind err begin stamp born ended:Nat) (sl:ByteArray) (A1 A2:Option Addr) (n1 c1 n2 c2 g:Nat) (xs:List Value),Ap=some ⟨g,0,none⟩∧g<w1.heap.size∧(w1.cell? ⟨g,k*14,none⟩=some (.int .i64 thread)∧w1.cell? ⟨g,k*14+1,none⟩=some (.int .i64 job)∧w1.cell? ⟨g,k*14+2,none⟩=some (.int .i64 try_)∧w1.cell? ⟨g,k*14+3,none⟩=some (.bool false)∧w1.cell? ⟨g,k*14+4,none⟩=some (.int .i64 kind)∧w1.cell? ⟨g,k*14+5,none⟩=some (.int .i64 err)∧w1.cell? ⟨g,k*14+6,none⟩=some (.int .u64 begin)∧w1.cell? ⟨g,k*14+7,none⟩=some (.int .u64 stamp)∧w1.cell? ⟨g,k*14+8,none⟩=some (.int .i64 born)∧w1.cell? ⟨g,k*14+9,none⟩=some (.int .i64 ended)∧w1.cell? ⟨g,k*14+10,none⟩=some (.slice A1 n1 c1)∧w1.cell? ⟨g,k*14+11,none⟩=some (.slice A2 n2 c2)∧w1.cell? ⟨g,k*14+12,none⟩=some (.slice none 0 0)∧w1.cell? ⟨g,k*14+13,none⟩=some (.string sl))∧(∃Z,Sat ω w1 (row 52 14 (.slice A k c) k xs*Z)) ∧
   Calls Tryz.prog 69 #[.agg #[.int .i64 thread,.int .i64 job,.int .i64 try_,.bool false,.int .i64 kind,.int .i64 err,.int .u64 begin,.int .u64 stamp,.int .i64 born,.int .i64 ended,.slice A1 n1 c1,.slice A2 n2 c2,.slice none 0 0,.string sl]] (w1.alloc (.cells #[.int .i64 thread,.int .i64 job,.int .i64 try_,.bool false,.int .i64 kind,.int .i64 err,.int .u64 begin,.int .u64 stamp,.int .i64 born,.int .i64 ended,.slice A1 n1 c1,.slice A2 n2 c2,.slice none 0 0,.string sl] 52)) (fun e w'=>∃B1 d1 B2 d2,e=.returned (.agg #[.int .i64 thread,.int .i64 job,.int .i64 try_,.bool false,.int .i64 kind,.int .i64 err,.int .u64 begin,.int .u64 stamp,.int .i64 born,.int .i64 ended,.slice B1 n1 d1,.slice B2 n2 d2,.slice none 0 0,.string sl])∧∃Z,Sat ω w' (row 52 14 (.slice A k c) k xs*Z)∧∀w'' A' c',Sat ω w'' (row 52 14 (.slice A' (k+1) c') (k+1) (xs++[.int .i64 thread,.int .i64 job,.int .i64 try_,.bool false,.int .i64 kind,.int .i64 err,.int .u64 begin,.int .u64 stamp,.int .i64 born,.int .i64 ended,.slice B1 n1 d1,.slice B2 n2 d2,.slice none 0 0,.string sl])*Z)→AtsP ω X t.attempts (k+1) A' c' w'')):=h_ (fun k hk w1 A c h1=>by
  obtain⟨xs,G,h2,h3⟩:=h1.row;have hk2:k<t.past.length:=by omega
  have h2':Sat ω w1 (thX b s t D t.job*(powH*F*(row 52 14 (.slice A k c) k xs*G))):=h2.perm (by rw[hX];ac_rfl)
  obtain⟨g,A1,c1,A2,c2,R,_,⟨c',hpv'⟩,hg,hcell,hXe⟩:=thX_pastAt h2' hk2;have hAp:Ap=some ⟨g,0,none⟩:=by rw[hpv] at hpv';injection hpv'
  have hat:t.attempts[k]?=some t.past[k]:=by
   unfold PTh.attempts;rw[List.getElem?_append_left hk2,List.getElem?_eq_getElem hk2]
  have hlen:=hpo t.past[k] (List.getElem_mem hk2);obtain⟨T,hT⟩:∃T,t.past[k]=T:=⟨_,rfl⟩;rw[hT] at hcell hXe hat hlen;refine⟨T.thread,T.job,T.try_,T.kind,T.err,T.begin,T.stamp,T.born,T.ended,⟨T.slate.toArray⟩,A1,A2,T.reads.length,c1,T.cells.length,c2,g,xs,hAp,hg,?_,⟨_,h2⟩,?_⟩
  ·exact⟨hcell 0 (by omega),hcell 1 (by omega),hcell 2 (by omega),hcell 3 (by omega),hcell 4 (by omega),hcell 5 (by omega),hcell 6 (by omega),hcell 7 (by omega),hcell 8 (by omega),hcell 9 (by omega),hcell 10 (by omega),hcell 11 (by omega),hcell 12 (by omega),hcell 13 (by omega)⟩
  ·have h4:Sat ω (w1.alloc (.cells #[.int .i64 T.thread,.int .i64 T.job,.int .i64 T.try_,.bool false,.int .i64 T.kind,.int .i64 T.err,.int .u64 T.begin,.int .u64 T.stamp,.int .i64 T.born,.int .i64 T.ended,.slice A1 T.reads.length c1,.slice A2 T.cells.length c2,.slice none 0 0,.string ⟨T.slate.toArray⟩] 52)) (row 54 2 (.slice A1 T.reads.length c1) T.reads.length (vS T.reads)*(row 54 2 (.slice A2 T.cells.length c2) T.cells.length (vS T.cells)*(R*(powH*F*(row 52 14 (.slice A k c) k xs*G))))):=(h2'.junk _).perm (by rw[hXe];unfold toH;ac_rfl)
   refine(th_copied ω _ _ T.thread T.job T.try_ T.kind T.err T.begin T.stamp T.born T.ended ⟨T.slate.toArray⟩ A1 A2 T.reads.length c1 T.cells.length c2 T.reads T.cells (by omega) (by omega) h4).mono ?_
   rintro e w2 ⟨B1,d1,B2,d2,rfl,h5⟩;refine⟨B1,d1,B2,d2,rfl,G*(toH (.slice B1 T.reads.length d1,.slice B2 T.cells.length d2) T*X),h5.perm (by rw[hX,hXe];unfold toH;simp only;ac_rfl),fun w'' A' c'' h6=>?_⟩
   exact h3 w'' A' c'' B1 B2 d1 d2 T hat h6)
 have HEND:Hid (∀(w1:World) A c,AtsP ω X t.attempts n A c w1→Sat ω w1 (thX b s t D t.job*(powH*F))∧((st≠1∨(∃x,t.now=some x∧x.begun=false))→t.attempts.length=n)):=h_ (fun w1 A c h1=>by
  obtain⟨xs,G,h2,_⟩:=h1.row;refine⟨by rw[hX] at h2;exact h2.right.right,fun h3=>?_⟩
  unfold PTh.attempts;rcases h3 with h3|⟨x,hx,hxb⟩
  ·rw[if_neg (by omega),List.append_nil,hn]
  ·rw[List.length_append,hn];split
   ·rw[hx];simp only;rw[if_neg (by simp[hxb])];rfl
   ·rfl)
 have HSTART:Hid (AtsP ω X t.attempts 0 none 0 w):=h_ ⟨[],rfl,by
  have h1:=h.nil 52 14;rw[hX];exact h1.perm (by show _=_*(emp*_);rw[emp_star];rfl)⟩
 have HBK:Hid (∀(w1:World),Sat ω w1 (thX b s t D t.job*(powH*F))→Blk w1 b 138 (thC s t D t.job)):=h_ (fun w1 h1=>thX_blk h1)
 have HFIN:Hid (∀(w1:World) A c k,t.attempts.length=k→AtsP ω X t.attempts k A c w1→AtsP ω (thH b s t*(powH*F)) t.attempts k A c w1):=h_ (fun w1 A c k _ h1=>by
  obtain⟨qs,h2,h3⟩:=h1;refine⟨qs,h2,?_⟩;rw[hX] at h3;have h4:Sat ω w1 (thX b s t D t.job*(powH*F*(row 52 14 (.slice A k c) k (toVs qs (t.attempts.take k))*toAll qs (t.attempts.take k)))):=h3.perm (by ac_rfl)
  exact(thH_to h4).perm (by ac_rfl))
 have HTL:Hid (∀x,t.now=some x→st=1→EndOk x→x.begun=true→t.attempts.length=n+1∧∀(w1:World) A c,AtsP ω X t.attempts n A c w1→∃(thread job try_ kind err begin stamp born ended:Nat) (sl:ByteArray) (n1 n2:Nat) (xs:List Value),
   Calls Tryz.prog 70 #[.pointer (some ⟨b,0,none⟩),.int .i64 0] w1 (fun e w'=>∃B1 d1 B2 d2,e=.returned (.agg #[.int .i64 thread,.int .i64 job,.int .i64 try_,.bool false,.int .i64 kind,.int .i64 err,.int .u64 begin,.int .u64 stamp,.int .i64 born,.int .i64 ended,.slice B1 n1 d1,.slice B2 n2 d2,.slice none 0 0,.string sl])∧∃Z,Sat ω w' (row 52 14 (.slice A n c) n xs*Z)∧∀w'' A' c',Sat ω w'' (row 52 14 (.slice A' (n+1) c') (n+1) (xs++[.int .i64 thread,.int .i64 job,.int .i64 try_,.bool false,.int .i64 kind,.int .i64 err,.int .u64 begin,.int .u64 stamp,.int .i64 born,.int .i64 ended,.slice B1 n1 d1,.slice B2 n2 d2,.slice none 0 0,.string sl])*Z)→AtsP ω X t.attempts (n+1) A' c' w'')):=h_ (fun x hx h1 hok hbx=>by
  have hatt:t.attempts=t.past++[x.toldOf t 0]:=by
   unfold PTh.attempts;rw[if_pos (by omega),hx];simp only;rw[if_pos hbx]
  refine⟨by rw[hatt,List.length_append,hn];rfl,fun w1 A c h2=>?_⟩
  obtain⟨xs,G,h3,h4⟩:=h2.row;obtain⟨T,hT⟩:∃T,x.toldOf t 0=T:=⟨_,rfl⟩;have hat:t.attempts[n]?=some T:=by
   rw[hatt,hT,List.getElem?_append_right (by omega),hn];simp
  refine⟨T.thread,T.job,T.try_,T.kind,T.err,T.begin,T.stamp,T.born,T.ended,⟨T.slate.toArray⟩,T.reads.length,T.cells.length,xs,?_⟩;have h5:Sat ω w1 (thX b s t D t.job*(powH*(F*(row 52 14 (.slice A n c) n xs*G)))):=h3.perm (by rw[hX];ac_rfl)
  refine(th_told ω w1 _ b s t D x hx h5 hok.v hok.regs hok.out hok.items 0).mono ?_;rintro e w2 ⟨q,rfl,h6⟩;rw[hT] at h6 ⊢;obtain⟨q1,q2⟩:=q;have h7:Sat ω w2 (row 54 2 q1 T.reads.length (vS T.reads)*(row 54 2 q2 T.cells.length (vS T.cells)*(thX b s t D t.job*(powH*(F*(row 52 14 (.slice A n c) n xs*G)))))):=h6.perm (by unfold toH;simp only;ac_rfl)
  obtain⟨B1,d1,rfl⟩:=h7.rowForm;obtain⟨B2,d2,rfl⟩:=h7.right.rowForm;refine⟨B1,d1,B2,d2,rfl,G*(toH (.slice B1 T.reads.length d1,.slice B2 T.cells.length d2) T*X),h6.perm (by rw[hX];ac_rfl),fun w'' A' c'' h8=>h4 w'' A' c'' B1 B2 d1 d2 T hat h8⟩)
 have HBG:Hid (∀x,t.now=some x→∀(w1:World),Sat ω w1 (thX b s t D t.job*(powH*F))→Calls Tryz.prog 61 #[.pointer (some ⟨D.nb,0,none⟩)] w1 fun e w'=>e=.returned (.tuple #[.int .u64 x.begin,.bool x.begun])∧∃q,w'=w1.drewN q):=h_ (fun x hx w1 h1=>by
  obtain⟨G,g1,_⟩:=thX_at h1 hx;exact at_begin ω w1 G D.nb s x g1)
 have HNV:Hid (∀x,t.now=some x→nowV D.nb t.now=pV D.nb):=h_ (fun x hx=>by rw[hx];rfl)
 have HNW:Hid (st=1→∃x,t.now=some x∧EndOk x):=h_ (fun h1=>hnow (hs.trans h1))
 have HS:=h_ hs;obtain⟨m,hm⟩:∃m,t.attempts.length=m:=⟨_,rfl⟩;rw[hm] at HEND HTL ⊢;have HM:=h_ hm;clear h hb hrow hpv hi0 hz0 hz1 hz2 hn hst hnow hpo hs hm hX;go_enter Tryz.func41,Tryz.ntmps41;go_wp2;go_loopw [3,5,13] (fun v3 _ i wr=>∃(k:Nat) (A:Option Addr) (c:Nat),k≤n∧i=.int .i64 k∧v3=.slice A k c∧Hid (AtsP ω X t.attempts k A c wr)) (fun _ _ i _=>n-(intOf i).toNat)
 case atStart=>exact⟨0,none,0,by omega,rfl,rfl,HSTART.o⟩
 case round =>
  obtain⟨k,A,c,hk,rfl,rfl,HA⟩:=hrel;by_cases hlt:k<n
  ·obtain⟨thread,job,try_,kind,err,begin,stamp,born,ended,sl,A1,A2,n1,c1,n2,c2,g,xs,rfl,hg,⟨l0,l1,l2,l3,l4,l5,l6,l7,l8,l9,l10,l11,l12,l13⟩,_,hco⟩:=HRO.o k hlt wr A c HA.o;have HCO:=h_ hco;clear hco;go_wp2_with (first
    |(go_at_call 69;refine(HCO.o).mono ?_;rintro e w1 ⟨B1,d1,B2,d2,rfl,Z,hs,hf⟩;have HSa:=h_ hs;have HF:=h_ hf;clear hs hf)
    |(at_builtin;refine wpList_append_sat rfl _ _ 47 rfl 52 i0 _ 14 168 Tryz.underlying47 HI.o HZ0.o HZ1.o HZ2.o rfl (by decide) _ _ _ rfl (HSa.o.junk _) _ _ _ _ _ rfl (HRD.o _ _ _ _ _ _ _ _ _ _ _ _ _ _ _ _ _) (HON.o _ _ _ _ _ _ _ _ _ _ _ _ _ _ _ _) (by unfold maxLen;first|done|omega) (by first|done|omega) ?_;intro A' c' w2 hs;have HY:=h_ (HF.o _ _ _ hs);clear hs))
   exact⟨⟨k+1,_,_,by omega,by go_num,rfl,HY.o⟩,by simp[intOf];omega⟩
  ·obtain rfl:k=n:=by omega
   obtain⟨hE1,hE2⟩:=HEND.o wr A c HA.o;have HSX:=h_ hE1;have kB:=HBK.o _ hE1;have qf:=kB.frozen;have ql:=kB.lt;have q11:wr.cell? ⟨b,11,none⟩=some (.int .i64 st):=by rw[←HS.o];exact kB.cell 11
   have q16':wr.cell? ⟨b,16,none⟩=some (nowV D.nb t.now):=kB.cell 16;have HQ16:=h_ q16';clear hE1 kB q16';by_cases h1:st=1
   ·have d1:((st:Int)==1)=true:=by rw[h1];rfl
    obtain⟨x,hx,hok⟩:=HNW.o h1;have q16:wr.cell? ⟨b,16,none⟩=some (.pointer (some ⟨D.nb,0,none⟩)):=by have e:=HQ16.o;rw[HNV.o x hx] at e;exact e
    have HB:=h_ (HBG.o x hx wr HSX.o);cases hbx:x.begun
    ·have hmk:=hE2 (.inr ⟨x,hx,hbx⟩);subst hmk;rw[hbx] at HB;have HZ:Hid (∀q,AtsP ω (thH b s t*(powH*F)) t.attempts t.attempts.length A c (wr.drewN q)):=h_ (fun q=>by rw[HM.o];exact(HFIN.o wr A c _ HM.o HA.o).drewN q)
     clear hE2 hx hbx hok h1 HQ16 HEND HTL HRO;go_wp2_with (go_at_call 61;refine(HB.o).mono ?_;rintro e w1 ⟨rfl,q,rfl⟩);go_ret;exact⟨A,c,rfl,by have:=HZ.o q;rw[HM.o] at this;exact this⟩
    ·obtain⟨hmk,htl⟩:=HTL.o x hx h1 hok hbx;subst hmk;rw[hbx] at HB;have HTX:Hid (∀q,∃(thread job try_ kind err begin stamp born ended:Nat) (sl:ByteArray) (n1 n2:Nat) (xs:List Value),Calls Tryz.prog 70 #[.pointer (some ⟨b,0,none⟩),.int .i64 0] (wr.drewN q) (fun e w'=>∃B1 d1 B2 d2,e=.returned (.agg #[.int .i64 thread,.int .i64 job,.int .i64 try_,.bool false,.int .i64 kind,.int .i64 err,.int .u64 begin,.int .u64 stamp,.int .i64 born,.int .i64 ended,.slice B1 n1 d1,.slice B2 n2 d2,.slice none 0 0,.string sl])∧∃Z,Sat ω w' (row 52 14 (.slice A k c) k xs*Z)∧∀w'' A' c',Sat ω w'' (row 52 14 (.slice A' (k+1) c') (k+1) (xs++[.int .i64 thread,.int .i64 job,.int .i64 try_,.bool false,.int .i64 kind,.int .i64 err,.int .u64 begin,.int .u64 stamp,.int .i64 born,.int .i64 ended,.slice B1 n1 d1,.slice B2 n2 d2,.slice none 0 0,.string sl])*Z)→AtsP ω X t.attempts (k+1) A' c' w'')):=h_ (fun q=>htl (wr.drewN q) A c (HA.o.drewN q))
     clear hE2 hx hbx hok h1 HQ16 HEND HTL HRO htl;go_wp2_with (first
      |(go_at_call 61;refine(HB.o).mono ?_;rintro e w1 ⟨rfl,q,rfl⟩;obtain⟨thread,job,try_,kind,err,begin,stamp,born,ended,sl,n1,n2,xs,hto⟩:=HTX.o q;have HT9:=h_ hto;clear hto)
      |(go_at_call 70;refine(HT9.o).mono ?_;rintro e w1 ⟨B1,d1,B2,d2,rfl,Z,hs,hf⟩;have HSa:=h_ hs;have HF:=h_ hf;clear hs hf)
      |(at_builtin;refine wpList_append_sat rfl _ _ 47 rfl 52 i0 _ 14 168 Tryz.underlying47 HI.o HZ0.o HZ1.o HZ2.o rfl (by decide) _ _ _ rfl (HSa.o.junk _) _ _ _ _ _ rfl (HRD.o _ _ _ _ _ _ _ _ _ _ _ _ _ _ _ _ _) (HON.o _ _ _ _ _ _ _ _ _ _ _ _ _ _ _ _) (by unfold maxLen;first|done|omega) (by first|done|omega) ?_;intro A' c' w2 hs;have HY:=h_ (HF.o _ _ _ hs);clear hs))
     go_ret;exact⟨_,_,rfl,HFIN.o _ _ _ _ HM.o HY.o⟩
   ·have d1:((st:Int)==1)=false:=by rw[beq_eq_false_iff_ne];omega
    have hmk:=hE2 (.inl h1);subst hmk;have HZ:=h_ (HFIN.o wr A c _ HM.o HA.o);clear hE2 h1 HQ16 HEND HTL HRO;go_wp2;go_ret;exact⟨A,c,rfl,HZ.o⟩
end Go.Proofs.YtfodmgaliclhfaaGreatDoor
