/- Lemmas for TopPairs; no conditions. -/
import Derived.Test.YtfodmgaliclhfaaGreatDoorGOkCo
import Derived.Test.YtfodmgaliclhfaaGreatDoorGThPause
import Derived.Test.YtfodmgaliclhfaaGreatDoorGStack
import Derived.Test.YtfodmgaliclhfaaGreatDoorGAtFetched
namespace Go.Proofs.YtfodmgaliclhfaaGreatDoor
set_option linter.unusedVariables false
set_option linter.unusedSimpArgs false
set_option maxRecDepth 100000
open Go.RowKit
section
namespace Ok
theorem insUp_mem (x y:Nat)(l:List Nat):y∈insUp x l↔y=x∨y∈l:=by
 induction l with
 |nil=>simp[insUp]
 |cons z l ih =>
  unfold insUp;split
  ·simp
  ·split
   ·rename_i h;subst h;simp
   ·simp only[List.mem_cons,ih];constructor
    ·rintro(h|h|h)
     ·exact .inr (.inl h)
     ·exact .inl h
     ·exact .inr (.inr h)
    ·rintro(h|h|h)
     ·exact .inr (.inl h)
     ·exact .inl h
     ·exact .inr (.inr h)
theorem insUp_up (x:Nat)(l:List Nat)(h:l.Pairwise (· < ·)):(insUp x l).Pairwise (· < ·):=by
 induction l with
 |nil=>simp[insUp]
 |cons z l ih =>
  obtain⟨h1,h2⟩:=List.pairwise_cons.1 h;unfold insUp;split
  ·rename_i hx;refine List.pairwise_cons.2 ⟨fun y hy=>?_,h⟩
   rcases List.mem_cons.1 hy with rfl|hy
   ·exact hx
   ·have:=h1 y hy;omega
  ·split
   ·exact h
   ·rename_i hx hz;refine List.pairwise_cons.2 ⟨fun y hy=>?_,ih h2⟩
    rcases(insUp_mem x y l).1 hy with rfl|hy
    ·omega
    ·exact h1 y hy
theorem insUp_len (x:Nat)(l:List Nat):(insUp x l).length≤l.length+1∧0<(insUp x l).length:=by
 induction l with
 |nil=>simp[insUp]
 |cons z l ih =>
  unfold insUp;split
  ·simp
  ·split
   ·simp
   ·simp;omega
theorem stripes_all (n wide:Nat)(hn:0<n)(l:List (Nat×Nat)):∀acc:List Nat,acc.Pairwise (· < ·)→(∀k∈acc,k<n) →
  (l.foldl (fun acc c=>insUp (stripeOf c.1 n wide) acc) acc).Pairwise (· < ·)∧(∀k∈l.foldl (fun acc c=>insUp (stripeOf c.1 n wide) acc) acc,k<n) ∧
  (l.foldl (fun acc c=>insUp (stripeOf c.1 n wide) acc) acc).length≤acc.length+l.length∧(0<acc.length+l.length→0<(l.foldl (fun acc c=>insUp (stripeOf c.1 n wide) acc) acc).length):=by
 induction l with
 |nil=>intro acc h h2;exact⟨h,h2,by simp,by simp⟩
 |cons c l ih =>
  intro acc h h2;have h3:=insUp_len (stripeOf c.1 n wide) acc;obtain⟨i1,i2,i3,i4⟩:=ih (insUp (stripeOf c.1 n wide) acc) (insUp_up _ _ h) (fun k hk=>by
   rcases(insUp_mem _ _ _).1 hk with rfl|hk
   ·exact Nat.mod_lt _ hn
   ·exact h2 k hk)
  simp only[List.foldl_cons,List.length_cons];exact⟨i1,i2,by omega,fun _=>i4 (by omega)⟩
theorem stripesOf_fine (n wide:Nat)(hn:0<n)(l:List (Nat×Nat))(hl:l≠[]):(stripesOf l n wide).Pairwise (· < ·)∧(∀k∈stripesOf l n wide,k<n)∧(stripesOf l n wide).length≤l.length∧0<(stripesOf l n wide).length:=by
 obtain⟨h1,h2,h3,h4⟩:=stripes_all n wide hn l [] List.Pairwise.nil (by simp)
 have h3':(stripesOf l n wide).length≤l.length:=by rw[List.length_nil,Nat.zero_add] at h3;exact h3
 exact⟨h1,h2,h3',h4 (by have:=List.length_pos_iff.2 hl;simp;omega)⟩
structure CoSame (c d:PCo):Prop where
 seen:d.seen=c.seen
 stripes:d.stripes=c.stripes
 now:d.now=c.now
section
variable {c d : PCo}
theorem same_leave (c:PCo):CoSame c c.leave:=by unfold PCo.leave;split<;>exact⟨rfl,rfl,rfl⟩
theorem same_stop (c:PCo)(f e:Nat)(b:Int):CoSame c (c.stop f e b):=by
 have h:=same_leave { c with fin:=f,err:=e,by_:=b,at_:=0,state:=7 }
 exact⟨h.seen,h.stripes,h.now⟩
theorem same_give (c:PCo):CoSame c c.give:=by unfold PCo.give;split<;>exact⟨rfl,rfl,rfl⟩
theorem same_write (c:PCo):CoSame c c.write:=by
 unfold PCo.write;split
 ·have h:=same_give { c with at_:=0,state:=6 }
  exact⟨h.seen,h.stripes,h.now⟩
 ·exact⟨rfl,rfl,rfl⟩
theorem same_begin (c:PCo):CoSame c c.begin:=by
 have h:=same_write { c with writing:=true,at_:=0,state:=5 }
 exact⟨h.seen,h.stripes,h.now⟩
theorem same_proveF:∀(n:Nat) (c:PCo),CoSame c (PCo.proveF n c)
 |0,c=>⟨rfl,rfl,rfl⟩
 |n+1,c=>by
  unfold PCo.proveF;split
  ·split
   ·exact⟨rfl,rfl,rfl⟩
   ·split
    ·exact same_stop _ _ _ _
    ·have h:=same_proveF n { c with at_:=c.at_+1 }
     exact⟨h.seen,h.stripes,h.now⟩
  ·exact same_begin _
theorem same_prove (c:PCo):CoSame c c.prove:=by
 have h:=same_proveF (c.seen.length+1) { c with state:=4 }
 exact⟨h.seen,h.stripes,h.now⟩
theorem same_heldBy (c:PCo)(l:PLk):CoSame c (c.heldBy l):=by
 unfold PCo.heldBy;simp only;split
 ·exact⟨rfl,rfl,rfl⟩
 ·have h:=same_stop { c with rule:=(c.rule.waits l).2 } 5 0 l.own
  exact⟨h.seen,h.stripes,h.now⟩
theorem same_proved (c:PCo)(l:PLk):CoSame c (c.proved l):=by
 unfold PCo.proved;split
 ·exact same_heldBy _ _
 ·split
  ·exact same_stop _ _ _ _
  ·have h:=same_prove { c with at_:=c.at_+1 }
   exact⟨h.seen,h.stripes,h.now⟩
theorem same_take (c:PCo)(a:PAns):CoSame c (c.take a):=by
 unfold PCo.take;split
 ·exact same_heldBy _ _
 ·split
  ·exact⟨rfl,rfl,rfl⟩
  ·split
   ·exact⟨rfl,rfl,rfl⟩
   ·exact⟨rfl,rfl,rfl⟩
structure CoNear (c d:PCo):Prop where
 seen:d.seen=c.seen
 stripes:d.stripes=c.stripes
 now:d.now=c.now∨d.now≤4611686018427387903
theorem CoSame.near (h:CoSame c d):CoNear c d:=⟨h.seen,h.stripes,.inl h.now⟩
theorem near_raise (c:PCo)(a:PAns):CoNear c (c.raise a):=by
 unfold PCo.raise;split
 ·exact(same_stop _ _ _ _).near
 ·split
  ·rename_i h1 h2;exact⟨rfl,rfl,.inr (by simp only;omega)⟩
  ·split
   ·exact⟨rfl,rfl,.inl rfl⟩
   ·split
    ·exact(same_begin _).near
    ·exact(same_prove _).near
theorem near_tell (c:PCo)(a:PAns):CoNear c (c.tell a):=by
 unfold PCo.tell;simp only;split
 ·exact⟨rfl,rfl,.inl rfl⟩
 ·split
  ·exact(same_take _ _).near
  ·exact(same_take _ _).near
  ·exact near_raise _ _
  ·exact near_raise _ _
  ·exact(same_proved _ _).near
  ·have h:=same_write { c with at_:=c.at_+1 }
   exact⟨h.seen,h.stripes,.inl h.now⟩
  ·have h:=same_give { c with at_:=c.at_+1 }
   exact⟨h.seen,h.stripes,.inl h.now⟩
  ·have h:=same_leave { c with at_:=c.at_+1 }
   exact⟨h.seen,h.stripes,.inl h.now⟩
  ·exact⟨rfl,rfl,.inl rfl⟩
end
end Ok
structure CoFine (c:PCo):Prop where
 set:c.set
 now:c.now≤4611686018427387903
 seen:∀r∈c.seen,r.1<16
 stripes:∀k∈c.stripes,k<16
theorem CoFine.tell {c:PCo}(h:CoFine c)(a:PAns):CoFine (c.tell a):=by
 have h1:=Ok.near_tell c a;exact⟨h.set.tell a,by have:=h1.now;have:=h.now;omega,by rw[h1.seen];exact h.seen,by rw[h1.stripes];exact h.stripes⟩
theorem CoFine.new (me spins stamp:Nat)(seen cells:List (Nat×Nat))(n wide:Nat)(hn:0<n)(hn2:n≤16)(hs:seen.length≤16)(hs2:∀r∈seen,r.1<16)(hc:wFine cells)(hne:cells≠[]):CoFine (PCo.new me spins stamp seen cells n wide):=by
 obtain⟨h1,h2,h3,h4⟩:=Ok.stripesOf_fine n wide hn cells hne;have hlen:=hc.1;have hb:PCo.base ⟨PPat.new me spins,me,stamp,seen,cells,stripesOf cells n wide,[],0,0,PLk.zero,0,false,0,0,0⟩ :=
  ⟨⟨by simp only;omega,by simp only;omega,by simp only;omega,by simp,by simp⟩,by simp,h4,h1,hc.2⟩
 have hw:(PCo.new me spins stamp seen cells n wide).well:=hb.more (by simp)
 refine⟨⟨hw,fun _=>rfl,fun h9=>?_⟩,by show(0:Nat)≤_;omega,hs2,fun k hk=>?_⟩
 ·unfold PCo.new PCo.more at h9;simp only at h9;split at h9<;>omega
 ·have:=h2 k hk
  omega
structure OpFine (o:POp):Prop where
 at_:o.at_≤1000000
 k1:1≤o.kind
 k2:o.kind≤9
 word:o.kind=2→U64 o.word
theorem getD_few {l:List Nat}(h:∀k∈l,k<16)(i:Nat):l.getD i 0≤1000000:=by
 rw[gD];cases e:l[i]? with
 |none=>exact Nat.zero_le _
 |some k=>have:=h k (List.mem_of_getElem? e);simp;omega
theorem getD_few1 {l:List (Nat×Nat)}(h:∀r∈l,r.1<16)(i:Nat):(l.getD i (0,0)).1≤1000000:=by
 rw[gD];cases e:l[i]? with
 |none=>exact Nat.zero_le _
 |some k=>have:=h k (List.mem_of_getElem? e);simp;omega
theorem getD_cell {l:List (Nat×Nat)}(h:∀r∈l,r.1≤1000000∧U64 r.2)(i:Nat):(l.getD i (0,0)).1≤1000000∧U64 (l.getD i (0,0)).2:=by
 rw[gD];cases e:l[i]? with
 |none=>exact⟨Nat.zero_le _,U64.zero⟩
 |some k=>exact h k (List.mem_of_getElem? e)
theorem CoFine.next {c:PCo}(h:CoFine c)(h2:c.next.2=true):OpFine c.next.1:=by
 unfold PCo.next at h2 ⊢;split at h2
 ·cases h2
 ·rename_i h3;rw[if_neg h3];have h7:=h.set.w.ok.state;have e1:=getD_few h.stripes c.was.length;have e2:=getD_few h.stripes c.at_;have e3:=getD_few1 h.seen c.at_;have e4:=getD_cell h.set.w.lim c.at_;rcases(by omega:c.state=0∨c.state=1∨c.state=2∨c.state=3∨c.state=4∨c.state=5∨c.state=6∨c.state=7) with k|k|k|k|k|k|k|k
  all_goals simp only[k]
  ·exact⟨e1,by simp[POp.at'],by simp[POp.at'],by simp[POp.at']⟩
  ·exact⟨e1,by simp[POp.at'],by simp[POp.at'],by simp[POp.at']⟩
  ·exact⟨by simp[POp.at'],by simp[POp.at'],by simp[POp.at'],by simp[POp.at']⟩
  ·exact⟨by simp[POp.at'],by simp[POp.at'],by simp[POp.at'],by simp[POp.at']⟩
  ·exact⟨e3,by simp[POp.at'],by simp[POp.at'],by simp[POp.at']⟩
  ·exact⟨e4.1,by simp[POp.at'],by simp[POp.at'],fun _=>e4.2⟩
  ·exact⟨e2,by simp[POp.at'],by simp[POp.at'],by simp[POp.at']⟩
  ·exact⟨e2,by simp[POp.at'],by simp[POp.at'],by simp[POp.at']⟩
structure EeFine (e:PEx):Prop where
 ok:e.ok
 len:e.seen.length≤16
 at_:e.at_≤e.seen.length
 stamp:e.stamp≤4611686018427387904
 seen:∀r∈e.seen,r.1<16
theorem EeFine.rule {e:PEx}(h:EeFine e){r:PPat}(hr:r.fin≠0∨r.fin=e.rule.fin):EeFine { e with rule:=r } :=
 ⟨fun h1 h2=>h.ok (by simp only at h1;omega) h2,h.len,h.at_,h.stamp,h.seen⟩
theorem over_fine {e:PEx}(h1:e.seen.length≤16)(h2:e.at_≤e.seen.length)(h3:e.stamp≤4611686018427387904)(h4:∀r∈e.seen,r.1<16):EeFine e.over:=by
 unfold PEx.over;split
 ·exact⟨by intro h;simp[PPat.stop] at h,h1,h2,h3,h4⟩
 ·exact⟨fun _ _=>by omega,h1,h2,h3,h4⟩
theorem EeFine.tell {e:PEx}(h:EeFine e){a:PAns}(ha:e.rule.fin=0→e.loaded=false→a.word≤4611686018427387904):EeFine (e.tell a):=by
 unfold PEx.tell;simp only;by_cases hf:(e.rule.hear a).fin≠0
 ·rw[if_pos hf];exact h.rule (.inl hf)
 rw[if_neg hf];have hf0:e.rule.fin=0:=by
  unfold PPat.hear at hf;split at hf
  ·simp[PPat.stop] at hf
  ·simpa using hf
 by_cases hl:e.loaded=false
 ·rw[if_pos hl];exact over_fine (e:={ e with loaded:=true,stamp:=a.word }) h.len h.at_ (ha hf0 hl) h.seen
 rw[if_neg hl];have hlt:=h.ok hf0 (by simpa using hl)
 by_cases hh:a.lock.held=true
 ·rw[if_pos hh];split
  ·exact h.rule (.inr (waits_fin' _ _))
  ·exact h.rule (.inl (by simp[PPat.stop]))
 rw[if_neg hh];split
 ·exact h.rule (.inl (by simp[PPat.stop]))
 ·exact over_fine (e:={ e with at_:=e.at_+1 }) h.len (by simp only;omega) h.stamp h.seen
theorem EeFine.next {e:PEx}(h:EeFine e)(h2:e.next.2=true):OpFine e.next.1∧e.rule.fin=0∧(e.loaded=false→e.next.1=POp.at' 6 0):=by
 unfold PEx.next at h2 ⊢;split at h2
 ·cases h2
 ·rename_i h3;rw[if_neg h3];refine⟨?_,by simpa using h3,?_⟩
  ·split
   ·exact⟨getD_few1 h.seen e.at_,by simp[POp.at'],by simp[POp.at'],by simp[POp.at']⟩
   ·exact⟨by simp[POp.at'],by simp[POp.at'],by simp[POp.at'],by simp[POp.at']⟩
  ·intro h4;rw[h4];rfl
structure FeFine (f:PFe):Prop where
 word:U64 f.word
 at_:f.at_≤1000000
 stripe:f.stripe≤1000000
theorem FeFine.found {f:PFe}(h:FeFine f)(l:PLk):FeFine (f.found l):=by
 unfold PFe.found;simp only;split
 ·split<;>exact⟨h.word,h.at_,h.stripe⟩
 ·split<;>exact⟨h.word,h.at_,h.stripe⟩
theorem FeFine.tell {f:PFe}(h:FeFine f){a:PAns}(ha:f.rule.fin=0→f.state=1→U64 a.word):FeFine (f.tell a):=by
 unfold PFe.tell;simp only;by_cases hf:(f.rule.hear a).fin≠0
 ·rw[if_pos hf];exact⟨h.word,h.at_,h.stripe⟩
 rw[if_neg hf];have hf0:f.rule.fin=0:=by
  unfold PPat.hear at hf;split at hf
  ·simp[PPat.stop] at hf
  ·simpa using hf
 split
 ·rename_i h1;exact⟨ha hf0 h1,h.at_,h.stripe⟩
 ·split
  ·exact⟨h.word,h.at_,h.stripe⟩
  ·exact h.found _
theorem FeFine.next {f:PFe}(h:FeFine f)(h2:f.next.2=true):OpFine f.next.1∧f.rule.fin=0∧(f.state=1→f.next.1.kind=1):=by
 unfold PFe.next at h2 ⊢;split at h2
 ·cases h2
 ·rename_i h3;rw[if_neg h3];refine⟨?_,by simpa using h3,?_⟩
  ·split
   ·exact⟨h.at_,by simp[POp.at'],by simp[POp.at'],by simp[POp.at']⟩
   ·exact⟨h.stripe,by simp[POp.at'],by simp[POp.at'],by simp[POp.at']⟩
  ·intro h4;rw[if_pos h4];rfl
structure AtCore (x:PAt):Prop where
 it:∃dep,ItFine dep x.run x.v
 fin:x.run.fin=0∨x.run.fin=2∨x.run.fin=4
 reads:x.reads.length≤16
 seen:∀r∈x.reads,r.1<16
 co:∀c,x.inner=.commit c→CoFine c
 stamp:x.stamp≤4611686018427387904
 me:x.me≤1000
structure AtFine (x:PAt):Prop extends AtCore x where
 st:x.state≤8
 s3:x.state=3→∃f,x.inner=.fetch f∧FeFine f
 s4:x.state=4∨x.state=5→∃e,x.inner=.extend e∧EeFine e
 s6:x.state=6→∃c,x.inner=.commit c
 nc:x.state≤5→∀c,x.inner≠.commit c
structure StFine (s:PSt):Prop where
 s1:1≤s.stripes
 s2:s.stripes≤16
section
variable {x : PAt} {s : PSt}
theorem AtCore.out (h:AtCore x)(f e:Nat)(b:Int):AtFine (x.out f e b) :=
 ⟨⟨h.it,h.fin,h.reads,h.seen,h.co,h.stamp,h.me⟩,by simp[PAt.out],by simp[PAt.out],by simp[PAt.out],by simp[PAt.out],by simp[PAt.out]⟩
theorem AtCore.gone (h:AtCore x)(f e:Nat)(b:Int):AtFine { x.out f e b with state:=8 } :=
 ⟨⟨h.it,h.fin,h.reads,h.seen,h.co,h.stamp,h.me⟩,by simp,by simp,by simp,by simp,by simp⟩
theorem AtCore.ask (h:AtCore x)(hs:StFine s){p:Nat}(hp:p≤1000000):AtFine (x.ask s p):=by
 have h1:stripeOf p s.stripes s.wide<s.stripes:=Nat.mod_lt _ hs.s1;have h2:=hs.s2;refine⟨⟨h.it,h.fin,h.reads,h.seen,(by intro c hc;cases hc),h.stamp,h.me⟩,by simp[PAt.ask],fun _=>⟨_,rfl,U64.zero,hp,?_⟩,by simp[PAt.ask],by simp[PAt.ask],(by intro _ c hc;cases hc)⟩
 show stripeOf p s.stripes s.wide≤_
 omega
theorem AtCore.later (h:AtCore x){k:Nat}(hk:k=4∨k=5):AtFine (x.later s k):=by
 refine⟨⟨h.it,h.fin,h.reads,h.seen,(by intro c hc;cases hc),h.stamp,h.me⟩,by simp only[PAt.later];omega,by simp only[PAt.later];omega,fun _=>⟨_,rfl,?_,h.reads,Nat.zero_le _,Nat.zero_le _,h.seen⟩,by simp only[PAt.later];omega,(by intro _ c hc;cases hc)⟩
 intro _ h9;cases h9
theorem AtCore.work (h:AtCore x)(hs:StFine s):AtFine (x.work s):=by
 obtain⟨dep,hi⟩:=h.it;have hr:=runF_fine (x.run.left+1) x.run x.v hi h.fin;unfold PAt.work PIt.run;generalize PIt.runF (x.run.left+1) x.run x.v=R at hr ⊢;obtain⟨k,y,v⟩:=R;obtain⟨hr1,hr2⟩:=hr;have hc:AtCore { x with run:=y,v:=v }:=⟨⟨dep,hr1.it⟩,hr2,h.reads,h.seen,h.co,h.stamp,h.me⟩
 simp only;split
 ·exact hc.ask hs hr1.it.vf.need
 ·exact AtCore.later (x:={ x with run:=y,v:=v,blocking:=true }) ⟨hc.it,hc.fin,hc.reads,hc.seen,hc.co,hc.stamp,hc.me⟩ (.inr rfl)
 ·exact hc.out _ _ _
 ·split
  ·exact hc.out _ _ _
  ·rename_i hne;have hco:=CoFine.new x.me s.spins x.stamp x.reads v.logs.cells s.stripes s.wide hs.s1 hs.s2 h.reads h.seen hr1.it.vf.logs.cells hne;exact⟨⟨hc.it,hc.fin,hc.reads,hc.seen,(by intro c h9;cases h9;exact hco),hc.stamp,hc.me⟩,by simp,by simp,by simp,fun _=>⟨_,rfl⟩,by simp⟩
theorem rdAdd_fine {r:List (Nat×Nat)}(h1:r.length≤16)(h2:∀q∈r,q.1<16)(x:Nat×Nat):(rdAdd r x).2.length≤16∧∀q∈(rdAdd r x).2,q.1<16:=by
 unfold rdAdd;split
 ·exact⟨h1,h2⟩
 ·split
  ·exact⟨h1,h2⟩
  ·split
   ·exact⟨h1,h2⟩
   ·refine⟨by simp;omega,fun q hq=>?_⟩
    simp only[List.mem_append,List.mem_singleton] at hq;rcases hq with hq|rfl
    ·exact h2 q hq
    ·omega
theorem know_it {dep:Nat→Nat}{x:PIt}{v:PVw}(h:ItFine dep x v){p y:Nat}(hy:U64 y):ItFine dep x (v.know p y).2:=by
 obtain⟨h1,h2,h3⟩:=h.vf.know (p:=p) hy;exact⟨⟨h.regs,h.lim,h.opens,h.out,h.oks⟩,h.code,h1,h.place,h.left,fun e=>by rw[h2];exact h.live e⟩
theorem AtCore.fetched (h:AtCore x)(hs:StFine s){f:PFe}(hf:FeFine f):AtFine (x.fetched s f):=by
 unfold PAt.fetched;split
 ·exact h.later (.inl rfl)
 ·simp only;have hr:=rdAdd_fine h.reads h.seen (if f.rule.fin=2 then(f.stripe,f.lock.ver) else(0,0))
  generalize rdAdd x.reads (if f.rule.fin=2 then(f.stripe,f.lock.ver) else(0,0))=r at hr ⊢
  have hc:AtCore { x with reads:=r.2 }:=⟨h.it,h.fin,hr.1,hr.2,h.co,h.stamp,h.me⟩
  split
  ·obtain⟨dep,hi⟩:=h.it;refine AtCore.work (x:={ x with reads:=r.2,v:=_ }) ⟨⟨dep,know_it hi ?_⟩,hc.fin,hc.reads,hc.seen,hc.co,hc.stamp,hc.me⟩ hs
   split
   ·exact hf.word
   ·exact U64.zero
  ·split
   ·exact hc.out _ _ _
   ·exact hc.out _ _ _
theorem AtFine.ended (h:AtFine x)(hs:StFine s)(hk:3≤x.state∧x.state≤6):AtFine (x.ended s):=by
 rcases(by omega:x.state=3∨(x.state=4∨x.state=5)∨x.state=6) with k|k|k
 ·obtain⟨f,hi,hf⟩:=h.s3 k;unfold PAt.ended;rw[hi];exact h.toAtCore.fetched hs hf
 ·obtain⟨e,hi,he⟩:=h.s4 k;have eE:x.ended s=(if x.state=4 then PAt.ask { x with stamp:=if e.rule.fin=2 then e.stamp else 0 } s x.v.need else PAt.out { x with stamp:=if e.rule.fin=2 then e.stamp else 0 } 3 0 (-1)):=by
   unfold PAt.ended;rw[hi]
  rw[eE];have hc:AtCore { x with stamp:=if e.rule.fin=2 then e.stamp else 0 }:=⟨h.it,h.fin,h.reads,h.seen,h.co,by simp only;have:=he.stamp;split<;>omega,h.me⟩
  split
  ·obtain⟨dep,hit⟩:=h.it;exact hc.ask hs hit.vf.need
  ·exact hc.out _ _ _
 ·obtain⟨c,hi⟩:=h.s6 k;unfold PAt.ended;rw[hi];exact h.toAtCore.out _ _ _
theorem AtFine.stamped (h:AtFine x){k:Nat}(hk:k≤4611686018427387904):AtFine { x with stamp:=k } :=
 ⟨⟨h.it,h.fin,h.reads,h.seen,h.co,hk,h.me⟩,h.st,h.s3,h.s4,h.s6,h.nc⟩
theorem AtFine.told (h:AtFine x)(hs:StFine s)(hk:3≤x.state∧x.state≤6):AtFine (x.told s):=by
 have key:∀y:PAt,AtFine y→AtFine (if y.writing then { y with stamp:=match y.inner with | .commit c=>c.stampOf|_=>0 } else y):=fun y hy=>by
  split
  ·refine hy.stamped ?_;split
   ·rename_i c hc
    have:=(hy.co c hc).now
    unfold PCo.stampOf;split<;>omega
   ·omega
  ·exact hy
 unfold PAt.told;refine key _ ?_;split
 ·exact h
 ·split
  ·exact h.toAtCore.out _ _ _
  ·exact h.ended hs hk
structure PMm.good (m:PMm):Prop where
 words:m.words.length≤1000
 locks:m.locks.length≤1000
 since:m.since.length≤1000
 lim:∀v∈m.words,U64 v
 clock:m.clock≤4611686018427387903
theorem doM_good {m:PMm}(h:m.good){o:POp}(ho:o.kind=2→U64 o.word):(doM m o).2.good:=by
 unfold doM;split
 ·split<;>exact h
 ·rename_i hk;split
  ·refine⟨by simpa using h.words,h.locks,h.since,fun v hv=>?_,h.clock⟩
   rcases List.mem_or_eq_of_mem_set hv with h1|h1
   ·exact h.lim v h1
   ·rw[h1];exact ho hk
  ·exact h
 ·split<;>exact h
 ·split
  ·split
   ·split
    ·exact⟨h.words,by simpa using h.locks,h.since,h.lim,h.clock⟩
    ·exact h
   ·exact h
  ·exact h
 ·split
  ·split
   ·exact⟨h.words,by simpa using h.locks,h.since,h.lim,h.clock⟩
   ·exact h
  ·exact h
 ·exact h
 ·split
  ·exact h
  ·split
   ·exact h
   ·split
    ·exact⟨h.words,h.locks,h.since,h.lim,by simp only;omega⟩
    ·exact h
 ·split<;>exact h
 ·split
  ·exact⟨h.words,h.locks,by simpa using h.since,h.lim,h.clock⟩
  ·exact h
 ·exact h
theorem doC_good {m:PMm}(h:m.good){o:POp}(ho:o.kind=2→U64 o.word):(doC m o).2.good:=by
 have h1:=doM_good h ho;unfold doC;simp only;split
 ·exact⟨h1.words,h1.locks,h1.since,h1.lim,h1.clock⟩
 ·exact h1
theorem doM_word {m:PMm}(h:m.good){o:POp}(ho:o.kind=1):U64 (doM m o).1.word:=by
 unfold doM;rw[ho];simp only;split
 ·show U64 (m.words.getD o.at_ 0)
  rw[gD];cases e:m.words[o.at_]? with
  |none=>exact U64.zero
  |some v=>exact h.lim v (List.mem_of_getElem? e)
 ·exact U64.zero
theorem doM_clock {m:PMm}(h:m.good):(doM m (POp.at' 6 0)).1.word≤4611686018427387904:=by
 have:=h.clock
 show m.clock≤_
 omega
theorem AtFine.next (h:AtFine x)(h2:x.next.2=true):OpFine x.next.1:=by
 have h8:=h.st;have hme:=h.me;rcases(by omega:x.state=0∨x.state=1∨x.state=2∨x.state=3∨(x.state=4∨x.state=5)∨x.state=6∨x.state=7∨x.state=8) with k|k|k|k|k|k|k|k
 ·unfold PAt.next;rw[k];exact⟨by simp[POp.at'];omega,by simp[POp.at'],by simp[POp.at'],by simp[POp.at']⟩
 ·unfold PAt.next;rw[k];exact⟨by simp[POp.at'],by simp[POp.at'],by simp[POp.at'],by simp[POp.at']⟩
 ·unfold PAt.next;rw[k];exact⟨by simp[POp.at'];omega,by simp[POp.at'],by simp[POp.at'],by simp[POp.at']⟩
 ·obtain⟨f,hi,hf⟩:=h.s3 k;have e:x.next=f.next:=by unfold PAt.next;rw[k,hi];rfl
  rw[e] at h2 ⊢;exact(hf.next h2).1
 ·obtain⟨f,hi,hf⟩:=h.s4 k;have e:x.next=f.next:=by
   unfold PAt.next;rcases k with k|k<;>rw[k,hi]<;>rfl
  rw[e] at h2 ⊢;exact(hf.next h2).1
 ·obtain⟨f,hi⟩:=h.s6 k;have e:x.next=f.next:=by unfold PAt.next;rw[k,hi];rfl
  rw[e] at h2 ⊢;exact(h.co f hi).next h2
 ·unfold PAt.next;rw[k];exact⟨by simp[POp.at'];omega,by simp[POp.at'],by simp[POp.at'],by simp[POp.at']⟩
 ·unfold PAt.next at h2;rw[k] at h2;cases h2
theorem Ok.tell_eq {a:PAns}{k:Nat}(hk:x.state=k)(h8:k≠8)(ha:a.err=0):x.tell s a=match (generalizing:=false) k with
 |0=>{ x with state:=1 }
 |1=>{ x with begun:=true,begin:=a.word,stamp:=a.word,state:=2 }
 |2=>x.work s
 |7=>{ x with state:=8 }
 |_=>{ x with inner:=x.inner.tell a }.told s:=by
 subst hk;unfold PAt.tell;rw[if_neg h8,if_neg (by simp[ha])]
 rfl
theorem AtFine.tell (h:AtFine x)(hs:StFine s){m:PMm}(hm:m.good)(h2:x.next.2=true):AtFine (x.tell s (doM m x.next.1).1):=by
 have h8:=h.st;by_cases k8:x.state=8
 ·unfold PAt.tell;rw[if_pos k8];exact h
 by_cases ha:(doM m x.next.1).1.err≠0
 ·unfold PAt.tell;rw[if_neg k8,if_pos ha];exact h.toAtCore.gone _ _ _
 have ha0:(doM m x.next.1).1.err=0:=by omega
 rcases(by omega:x.state=0∨x.state=1∨x.state=2∨x.state=3∨(x.state=4∨x.state=5)∨x.state=6∨x.state=7) with k|k|k|k|k|k|k
 ·rw[Ok.tell_eq k (by omega) ha0]
  exact⟨⟨h.it,h.fin,h.reads,h.seen,h.co,h.stamp,h.me⟩,by simp,by simp,by simp,by simp,fun _=>h.nc (by omega)⟩
 ·have e:x.next.1=POp.at' 6 0:=by unfold PAt.next;rw[k];rfl
  rw[e] at ha0 ⊢;rw[Ok.tell_eq k (by omega) ha0]
  exact⟨⟨h.it,h.fin,h.reads,h.seen,h.co,doM_clock hm,h.me⟩,by simp,by simp,by simp,by simp,fun _=>h.nc (by omega)⟩
 ·rw[Ok.tell_eq k (by omega) ha0]
  exact h.toAtCore.work hs
 ·obtain⟨f,hi,hf⟩:=h.s3 k;have e:x.next=f.next:=by unfold PAt.next;rw[k,hi];rfl
  rw[e] at h2;obtain⟨q1,q2,q3⟩:=hf.next h2;have hf2:FeFine (f.tell (doM m x.next.1).1):=hf.tell fun _ h1=>by rw[e];exact doM_word hm (q3 h1)
  generalize (doM m x.next.1).1=a at hf2 ha0 ⊢;have hY:AtFine { x with inner:=.fetch (f.tell a) }:=⟨⟨h.it,h.fin,h.reads,h.seen,(by intro c hc;cases hc),h.stamp,h.me⟩,h.st,fun _=>⟨_,rfl,hf2⟩,fun h9=>by simp only at h9;omega,fun h9=>by simp only at h9;omega,(by intro _ c hc;cases hc)⟩
  rw[Ok.tell_eq k (by omega) ha0,hi]
  exact hY.told hs (by simp only;omega)
 ·obtain⟨f,hi,hf⟩:=h.s4 k;have e:x.next=f.next:=by
   unfold PAt.next;rcases k with k|k<;>rw[k,hi]<;>rfl
  rw[e] at h2;obtain⟨q1,q2,q3⟩:=hf.next h2;have hf2:EeFine (f.tell (doM m x.next.1).1):=hf.tell fun _ h1=>by rw[e,q3 h1];exact doM_clock hm
  generalize (doM m x.next.1).1=a at hf2 ha0 ⊢;have hY:AtFine { x with inner:=.extend (f.tell a) }:=⟨⟨h.it,h.fin,h.reads,h.seen,(by intro c hc;cases hc),h.stamp,h.me⟩,h.st,fun h9=>by simp only at h9;omega,fun _=>⟨_,rfl,hf2⟩,fun h9=>by simp only at h9;omega,(by intro _ c hc;cases hc)⟩
  have hZ:=hY.told hs (by simp only;omega)
  rcases k with k|k
  ·rw[Ok.tell_eq k (by omega) ha0,hi];exact hZ
  ·rw[Ok.tell_eq k (by omega) ha0,hi];exact hZ
 ·obtain⟨f,hi⟩:=h.s6 k;have hf2:CoFine (f.tell (doM m x.next.1).1):=(h.co f hi).tell _;generalize (doM m x.next.1).1=a at hf2 ha0 ⊢;have hY:AtFine { x with inner:=.commit (f.tell a) }:=⟨⟨h.it,h.fin,h.reads,h.seen,(by intro c hc;cases hc;exact hf2),h.stamp,h.me⟩,h.st,fun h9=>by simp only at h9;omega,fun h9=>by simp only at h9;omega,fun _=>⟨_,rfl⟩,fun h9=>by simp only at h9;omega⟩
  rw[Ok.tell_eq k (by omega) ha0,hi]
  exact hY.told hs (by simp only;omega)
 ·rw[Ok.tell_eq k (by omega) ha0]
  exact⟨⟨h.it,h.fin,h.reads,h.seen,h.co,h.stamp,h.me⟩,by simp,by simp,by simp,by simp,by simp⟩
theorem AtFine.tell_word (h:AtFine x){m:PMm}(hm:m.good)(h2:x.next.2=true)(k:x.state=3)(f:PFe)(hi:x.inner=.fetch f):U64 (f.tell (doM m x.next.1).1).word:=by
 obtain⟨g,hg,hf⟩:=h.s3 k;have e0:f=g:=by rw[hi] at hg;injection hg
 subst e0;have e:x.next=f.next:=by unfold PAt.next;rw[k,hi];rfl
 rw[e] at h2;obtain⟨q1,q2,q3⟩:=hf.next h2;exact(hf.tell fun _ h1=>by rw[e];exact doM_word hm (q3 h1)).word
end
end
section
structure JobFine (p:List PIns):Prop where
 ok:okP p=true
 code:∃dep,CodeFine dep p
structure ThBase (K:Nat) (t:PTh):Prop where
 me:t.me≤1000
 jobs:t.jobs.length≤6
 prog:∀p∈t.jobs,JobFine p
 job:t.job≤t.jobs.length
 by_:t.by_≤1000
 tries:t.tries≤K
 confl:t.conflicts≤K
 past:t.past.length≤K
 res:t.results.length≤K
 pz:0≤t.pauses∧t.pauses≤8
 now:∀x,t.now=some x→AtFine x
structure ThFine (K:Nat) (t:PTh):Prop extends ThBase K t where
 st:t.state=1∨t.state=2∨t.state=3∨t.state=4∨t.state=6
 jlt:t.state≠6→t.job<t.jobs.length
 some_:t.state=1→∃x,t.now=some x
 pp:t.state=3→1≤t.pauses
 born:t.born≤K
section
variable {s : PSt} {K L : Nat} {t : PTh}
theorem ThBase.up (h:ThBase K t)(hk:K≤L):ThBase L t:=⟨h.me,h.jobs,h.prog,h.job,h.by_,Nat.le_trans h.tries hk,Nat.le_trans h.confl hk,Nat.le_trans h.past hk,Nat.le_trans h.res hk,h.pz,h.now⟩
theorem ThFine.up (h:ThFine K t)(hk:K≤L):ThFine L t:=⟨h.toThBase.up hk,h.st,h.jlt,h.some_,h.pp,Nat.le_trans h.born hk⟩
theorem new_fine {p:List PIns}(hp:JobFine p)(me:Nat)(hme:me≤1000)(s:PSt):AtFine (PAt.new me s p):=by
 obtain⟨dep,hc⟩:=hp.code;have hlog:(PLv.new s.writes).fine:=⟨by simp[PLv.new],by simp[PLv.new],by simp only[PLv.new];omega,fun r hr=>by
  simp only[PLv.new,List.mem_singleton] at hr;subst hr;exact wFine.nil⟩
 have hvw:(PVw.new s.words s.writes).fine:=by
  refine⟨hlog,by simp[PVw.new];omega,?_,by simp[PVw.new],fun k y hk=>?_,by simp[PVw.new]⟩
  ·simp only[PVw.new,List.length_nil]
   symm
   rw[List.countP_eq_zero];intro a ha;rw[(List.mem_replicate.1 ha).2];simp
  ·simp only[PVw.new] at hk;rw[gD,List.getElem?_replicate] at hk;split at hk<;>simp at hk
 refine⟨⟨⟨dep,⟨⟨by simp[PAt.new,PIt.new],?_,by simp[PAt.new,PIt.new],by simp[PAt.new,PIt.new],by simp[PAt.new,PIt.new]⟩,hc,hvw,Nat.zero_le _,by simp only[PAt.new,PIt.new];omega,fun _=>⟨rfl,hc.zero.symm⟩⟩⟩,.inl rfl,by simp[PAt.new],by simp[PAt.new],(by intro c h9;cases h9),by simp[PAt.new],hme⟩,by simp[PAt.new],by simp[PAt.new],by simp[PAt.new],by simp[PAt.new],(by intro _ c h9;cases h9)⟩
 intro r hr;simp only[PAt.new,PIt.new] at hr;rw[(List.mem_replicate.1 hr).2];exact U64.zero
theorem ThBase.again (h:ThBase K t)(s:PSt):ThFine K (t.again s):=by
 unfold PTh.again;simp only;split
 ·exact⟨⟨h.me,h.jobs,h.prog,h.job,h.by_,h.tries,h.confl,h.past,h.res,h.pz,by intro x hx;cases hx⟩,by simp,by simp,by simp,by simp,Nat.zero_le _⟩
 ·rename_i hj;have hlt:t.job<t.jobs.length:=Nat.lt_of_le_of_ne h.job hj;have hp:JobFine (t.jobs.getD t.job []):=h.prog _ (by rw[gD,List.getElem?_eq_getElem hlt];exact List.getElem_mem _)
  exact⟨⟨h.me,h.jobs,h.prog,h.job,h.by_,h.tries,h.confl,h.past,h.res,h.pz,by intro x hx;cases hx;exact new_fine hp _ h.me s⟩,by simp,fun _=>hlt,fun _=>⟨_,rfl⟩,by simp,Nat.zero_le _⟩
theorem mostPause_le:∀n,1≤mostPause n∧mostPause n≤8
 |0=>by simp[mostPause]
 |n+1=>by
  have:=mostPause_le n
  simp only[mostPause];omega
theorem ThBase.pause (h:ThBase K t)(hlt:t.job<t.jobs.length)(hb:t.born≤K)(s:PSt)(d:Nat):ThFine K (t.pause s d):=by
 have hm:=mostPause_le (min t.conflicts 8);have hd:d%(mostPause (min t.conflicts 8)+1)<mostPause (min t.conflicts 8)+1:=Nat.mod_lt _ (by omega)
 unfold PTh.pause;simp only;split
 ·exact ThBase.again (t:={ t with pauses:=_,state:=3 }) ⟨h.me,h.jobs,h.prog,h.job,h.by_,h.tries,h.confl,h.past,h.res,by simp only;omega,h.now⟩ s
 ·exact⟨⟨h.me,h.jobs,h.prog,h.job,h.by_,h.tries,h.confl,h.past,h.res,by simp only;omega,h.now⟩,by simp,fun _=>hlt,by simp,fun _=>by simp only;omega,hb⟩
theorem ThBase.following (h:ThBase K t)(hlt:t.job<t.jobs.length)(s:PSt):ThFine K (t.following s):=by
 unfold PTh.following;exact ThBase.again (t:={ t with job:=t.job+1,tries:=0,conflicts:=0 }) ⟨h.me,h.jobs,h.prog,hlt,h.by_,Nat.zero_le _,Nat.zero_le _,h.past,h.res,h.pz,h.now⟩ s
theorem ThBase.ended (h:ThBase K t)(hlt:t.job<t.jobs.length)(hb:t.born≤K+1)(hs:s.threads≤1000)(x:PAt)(d p:Nat):ThFine (K+1) (t.ended s x d p):=by
 have h1:ThBase (K+1) { t with past:=t.past++[x.toldOf t p],tries:=t.tries+1 }:=⟨h.me,h.jobs,h.prog,h.job,h.by_,by have:=h.tries;simp only;omega,by have:=h.confl;simp only;omega,by have:=h.past;simp;omega,by have:=h.res;simp only;omega,h.pz,h.now⟩
 unfold PTh.ended;simp only;split
 ·have h2:ThBase (K+1) { t with past:=t.past++[x.toldOf t p],tries:=t.tries+1,conflicts:=t.conflicts+1 }:=⟨h1.me,h1.jobs,h1.prog,h1.job,h1.by_,h1.tries,by have:=h.confl;simp only;omega,h1.past,h1.res,h1.pz,h1.now⟩
  split
  ·exact⟨⟨h2.me,h2.jobs,h2.prog,h2.job,by simp only;omega,h2.tries,h2.confl,h2.past,h2.res,h2.pz,h2.now⟩,by simp,fun _=>hlt,by simp,by simp,hb⟩
  ·exact h2.pause hlt hb s d
 ·split
  ·split
   ·exact h1.again s
   ·exact⟨⟨h1.me,h1.jobs,h1.prog,h1.job,h1.by_,h1.tries,h1.confl,h1.past,h1.res,h1.pz,h1.now⟩,by simp,fun _=>hlt,by simp,by simp,hb⟩
  ·exact ThBase.following (t:={ t with past:=t.past++[x.toldOf t p],tries:=t.tries+1,results:=t.results++[(⟨x.finOf,x.errOf,x.slate,x.stamp⟩:PRe)] }) ⟨h1.me,h1.jobs,h1.prog,h1.job,h1.by_,h1.tries,h1.confl,h1.past,by have:=h.res;simp;omega,h1.pz,h1.now⟩ hlt s
theorem ThFine.yield_ (h:ThFine K t)(h2:t.state=2)(s:PSt)(a:PAns)(d:Nat):ThFine K (t.yield_ s a d):=by
 unfold PTh.yield_;split
 ·exact⟨⟨h.me,h.jobs,h.prog,h.job,h.by_,h.tries,h.confl,h.past,h.res,h.pz,h.now⟩,h.st,h.jlt,h.some_,h.pp,h.born⟩
 ·exact h.toThBase.pause (h.jlt (by omega)) h.born s d
theorem ThFine.pauseOne (h:ThFine K t)(s:PSt):ThFine K (t.pauseOne s):=by
 unfold PTh.pauseOne;split
 ·exact h
 ·rename_i h3;have h3:t.state=3:=by simpa using h3
  have h4:=h.pp h3;have h5:=h.pz;have h6:ThBase K { t with pauses:=t.pauses-1 }:=⟨h.me,h.jobs,h.prog,h.job,h.by_,h.tries,h.confl,h.past,h.res,by simp only;omega,h.now⟩
  simp only;split
  ·exact h6.again s
  ·rename_i h7;exact⟨h6,h.st,h.jlt,h.some_,fun _=>by simp only;omega,h.born⟩
theorem ThFine.wake (h:ThFine K t)(s:PSt)(k v:Nat):ThFine K (t.wake s k v):=by
 unfold PTh.wake;split
 ·exact h
 ·split
  ·split
   ·exact h.toThBase.again s
   ·split
    ·exact⟨⟨h.me,h.jobs,h.prog,h.job,h.by_,h.tries,h.confl,h.past,h.res,h.pz,h.now⟩,h.st,h.jlt,h.some_,h.pp,h.born⟩
    ·exact h
  ·exact h
theorem ThFine.next (h:ThFine K t)(h2:t.next.2=true):OpFine t.next.1:=by
 rcases h.st with k|k|k|k|k
 ·obtain⟨x,hx⟩:=h.some_ k;have e:t.next=x.next:=by unfold PTh.next;rw[k,hx];rfl
  rw[e] at h2 ⊢;exact(h.now x hx).next h2
 ·have e:t.next=(POp.at' 8 t.by_,true):=by unfold PTh.next;rw[k];rfl
  rw[e];exact⟨Nat.le_trans h.by_ (by omega),by simp[POp.at'],by simp[POp.at'],by simp[POp.at']⟩
 all_goals
  have e:t.next=(POp.zero,false):=by unfold PTh.next;rw[k];rfl
  rw[e] at h2;cases h2
theorem ThFine.tell (h:ThFine K t)(hs:StFine s)(ht:s.threads≤1000){m:PMm}(hm:m.good)(h2:t.next.2=true)(d p:Nat)(hp:p≤K+1):ThFine (K+1) (t.tell s (doM m t.next.1).1 d p):=by
 rcases h.st with k|k|k|k|k
 ·obtain⟨x,hx⟩:=h.some_ k;have e:t.next=x.next:=by unfold PTh.next;rw[k,hx];rfl
  rw[e] at h2 ⊢;have hy:=(h.now x hx).tell hs hm h2;generalize (doM m x.next.1).1=a at hy ⊢;have eT:t.tell s a d p=(if(x.tell s a).finOf≠0 then PTh.ended { t with now:=some (x.tell s a),born:=if((x.tell s a).begun&&!x.begun)=true then p else t.born } s (x.tell s a) d p else { t with now:=some (x.tell s a),born:=if((x.tell s a).begun&&!x.begun)=true then p else t.born }):=by
   unfold PTh.tell;simp only[k,hx]
  rw[eT];generalize x.tell s a=y at hy ⊢;have hbn:(if(y.begun&&!x.begun)=true then p else t.born)≤K+1:=by
   have:=h.born
   split<;>omega
  have hb:ThBase K { t with now:=some y,born:=if(y.begun&&!x.begun)=true then p else t.born }:=⟨h.me,h.jobs,h.prog,h.job,h.by_,h.tries,h.confl,h.past,h.res,h.pz,by intro z hz;cases hz;exact hy⟩
  split
  ·exact hb.ended (h.jlt (by omega)) hbn ht y d p
  ·exact⟨hb.up (Nat.le_succ K),by simp[k],fun _=>h.jlt (by omega),fun _=>⟨y,rfl⟩,by simp only;omega,hbn⟩
 ·have e:t.tell s (doM m t.next.1).1 d p=t.yield_ s (doM m t.next.1).1 d:=by unfold PTh.tell;rw[k];rfl
  rw[e];exact(h.yield_ k s _ d).up (Nat.le_succ K)
 all_goals
  have e:t.next=(POp.zero,false):=by unfold PTh.next;rw[k];rfl
  rw[e] at h2;cases h2
end
theorem held_fine (s:PSt):StFine s.held∧s.held.threads≤4:=⟨⟨by simp only[PSt.held];omega,by simp only[PSt.held];omega⟩,by simp only[PSt.held];omega⟩
structure McFine (M:PMc):Prop where
 set:∃s:PSt,M.s=s.held
 mem:M.mem.good
 thr:∀i t,M.thr[i]?=some t→ThFine M.picks t∧t.me=i
 len:M.thr.length=M.s.threads
section
variable {M : PMc}
theorem pauseOne_me (t:PTh)(s:PSt):(t.pauseOne s).me=t.me:=by
 unfold PTh.pauseOne PTh.again;split
 ·rfl
 ·simp only;split
  ·split<;>rfl
  ·rfl
theorem again_me (t:PTh)(s:PSt):(t.again s).me=t.me:=by
 unfold PTh.again;simp only;split<;>rfl
theorem pause_me (t:PTh)(s:PSt)(d:Nat):(t.pause s d).me=t.me:=by
 unfold PTh.pause;simp only;split
 ·rw[again_me]
 ·rfl
theorem wake_me (t:PTh)(s:PSt)(k v:Nat):(t.wake s k v).me=t.me:=by
 unfold PTh.wake;split
 ·rfl
 ·split
  ·split
   ·rw[again_me]
   ·split<;>rfl
  ·rfl
theorem ended_me (t:PTh)(s:PSt)(x:PAt)(d p:Nat):(t.ended s x d p).me=t.me:=by
 unfold PTh.ended;simp only;split
 ·split
  ·rfl
  ·rw[pause_me]
 ·split
  ·split
   ·rw[again_me]
   ·rfl
  ·unfold PTh.following;rw[again_me]
theorem tell_me (t:PTh)(s:PSt)(a:PAns)(d p:Nat):(t.tell s a d p).me=t.me:=by
 unfold PTh.tell;split
 ·split
  ·rfl
  ·simp only;split
   ·rw[ended_me]
   ·rfl
 ·unfold PTh.yield_;split
  ·rfl
  ·rw[pause_me]
 ·rfl
theorem McFine.pick (h:McFine M)(i d:Nat):McFine (M.pick i d):=by
 obtain⟨s0,hs0⟩:=h.set;obtain⟨f1,f2⟩:=held_fine s0;rw[←hs0] at f1 f2;unfold PMc.pick;cases ht:M.thr[i]? with
 |none=>exact h
 |some t =>
  have hlt:i<M.thr.length:=(List.getElem?_eq_some_iff.1 ht).1;obtain⟨hth,hme⟩:=h.thr i t ht;have put:∀u,ThFine (M.picks+1) u→u.me=i→∀k v,(M.thr.set i u)[k]?=some v→ThFine (M.picks+1) v∧v.me=k:=fun u hu hum k v hv=>by
   by_cases e:k=i
   ·subst e;rw[List.getElem?_set_self hlt] at hv;obtain rfl:=Option.some.inj hv;exact⟨hu,hum⟩
   ·rw[List.getElem?_set_ne (Ne.symm e)] at hv;exact⟨(h.thr k v hv).1.up (by omega),(h.thr k v hv).2⟩
  simp only;by_cases hd:t.next.2=false
  ·rw[if_pos hd];exact⟨⟨s0,hs0⟩,h.mem,put _ ((hth.pauseOne M.s).up (by omega)) (by rw[pauseOne_me];exact hme),by simpa using h.len⟩
  rw[if_neg hd];have hd':t.next.2=true:=by simpa using hd
  have hop:=hth.next hd';have hmem:=doC_good h.mem hop.word;have hte:ThFine (M.picks+1) (t.tell M.s (doC M.mem t.next.1).1 d (M.picks+1)):=hth.tell f1 (by omega) h.mem hd' d _ (Nat.le_refl _)
  have hput:=put _ hte (by rw[tell_me];exact hme)
  split
  ·exact⟨⟨s0,hs0⟩,hmem,hput,by simpa using h.len⟩
  ·refine⟨⟨s0,hs0⟩,hmem,fun k v hv=>?_,by simpa using h.len⟩
   simp only[List.getElem?_mapIdx,Option.map_eq_some_iff] at hv;obtain⟨o,ho,rfl⟩:=hv;obtain⟨q1,q2⟩:=hput k o ho;split
   ·exact⟨q1,q2⟩
   ·exact⟨q1.wake _ _ _,by rw[wake_me];exact q2⟩
theorem McFine.new (s:PSt)(jobs:List (List (List PIns)))(hj:∀l∈jobs,∀p∈l,JobFine p):McFine (PMc.new s jobs):=by
 have hth:∀i,i≤1000→∀s' l,(∀p∈l,JobFine p)→ThFine 0 (PTh.new i s' l)∧(PTh.new i s' l).me=i:=fun i hi s' l hl=>by
  have h0:ThBase 0 { me:=i,jobs:=l.take 6,job:=0,state:=0,tries:=0,conflicts:=0,now:=none,born:=0,alarmed:=false,past:=[],results:=[],by_:=0,since:=0,yielding:=false,pauses:=0 } :=
   ⟨hi,by simp only[List.length_take];omega,fun p hp=>hl p (List.mem_of_mem_take hp),Nat.zero_le _,Nat.zero_le _,Nat.le_refl _,Nat.le_refl _,Nat.le_refl _,Nat.le_refl _,by simp,(by intro x hx;cases hx)⟩
  exact⟨h0.again s',again_me _ s'⟩
 refine⟨⟨_,rfl⟩,⟨?_,?_,?_,?_,?_⟩,fun i t ht=>?_,by simp[PMc.new]⟩
 ·simp[PMc.new,freshW];omega
 ·simp[PMc.new,PSt.held];omega
 ·simp[PMc.new,PSt.held];omega
 ·intro v hv;simp only[PMc.new,freshW] at hv;rcases List.mem_or_eq_of_mem_set hv with h1|h1
  ·rw[(List.mem_replicate.1 h1).2];exact U64.zero
  ·rw[h1];unfold U64;omega
 ·simp only[PMc.new,PSt.held];omega
 ·simp only[PMc.new,List.getElem?_map,Option.map_eq_some_iff] at ht;obtain⟨k,hk,rfl⟩:=ht;obtain⟨h1,h2⟩:=List.getElem?_eq_some_iff.1 hk;have hki:k=i:=by simpa using h2.symm
  subst hki;simp only[List.length_range,PSt.held] at h1;refine hth k (by omega) _ _ fun p hp=>?_
  rw[gD] at hp;cases he:(jobs.take 4)[k]? with
  |none=>rw[he] at hp;cases hp
  |some l =>
   rw[he] at hp;exact hj l (List.mem_of_mem_take (List.mem_of_getElem? he)) p hp
end
end
theorem AtFine.well {x:PAt}(h:AtFine x):AtWell x :=
 ⟨h.st,fun k=>by obtain⟨f,hf,_⟩:=h.s3 k;exact⟨f,hf⟩,fun k=>by obtain⟨e,he,h1⟩:=h.s4 k;exact⟨e,he,h1.ok,h1.len,Nat.le_trans h1.at_ h1.len⟩,fun k=>by obtain⟨c,hc⟩:=h.s6 k;exact⟨c,hc,(h.co c hc).set⟩,h.nc,h.stamp⟩
theorem PMm.good.fits {m:PMm}(h:m.good):m.fits:=⟨h.words,h.locks,h.since⟩
theorem ItVal.items {x:PIt}(h:ItVal x):∀i∈x.out,i.ok:=fun i hi=>by
 have:=h.oks i hi
 cases i with
 |num n=>simp only[U64] at this;simp only[Itm.ok];omega
 |truth b=>trivial
 |nothing=>trivial
theorem AtFine.run {x:PAt}(h:AtFine x):x.v.ok∧x.run.regs.length=8∧x.run.out.length≤1000∧∀i∈x.run.out,i.ok:=by
 obtain⟨dep,hi⟩:=h.it;exact⟨hi.vf.ok,hi.regs,by have:=hi.out;omega,hi.toItVal.items⟩
structure AtTellOk (s:PSt) (x:PAt) (a:PAns):Prop where
 fine:AtFine x
 next:AtFine (x.tell s a)
 word:x.state=3→∀f,x.inner=.fetch f→U64 (f.tell a).word
theorem at_tell (ω w:World)(F:HP)(b:Nat)(s:PSt)(x:PAt)(h:Sat ω w (atH b s x*F))(hs:s.fit)(a:PAns)(ho:AtTellOk s x a):
  Calls Tryz.prog 62 #[.pointer (some ⟨b,0,none⟩),ansA a] w (Rets ω F (.tuple #[]) (atH b s (x.tell s a))):=by
 obtain⟨aw,⟨av,ah,ao⟩,ad,ae⟩:=a;obtain⟨hf,hn,hw⟩:=ho;have hst:=hf.st;show Calls _ _ #[.pointer (some ⟨b,0,none⟩),.agg #[.int .u64 aw,.int .u64 av,.bool ah,.int .i64 ao,.bool ad,.int .i64 ae]] w _
 by_cases k8:x.state=8
 ·have e:x.tell s ⟨aw,⟨av,ah,ao⟩,ad,ae⟩=x:=by unfold PAt.tell;rw[if_pos k8]
  rw[e];exact at_tell8 ω w F b s x h k8 aw av ao ae ah ad
 by_cases he:ae≠0
 ·rw[at_tell_errW k8 he];exact at_tellErr ω w F b s x h x.state rfl k8 aw av ao ae ah ad he
 obtain rfl:ae=0:=by omega
 have hn':∀c,(x.tell s ⟨aw,⟨av,ah,ao⟩,ad,0⟩).inner=.commit c→c.now≤4611686018427387904:=fun c hc=>by
  have:=(hn.co c hc).now
  omega
 obtain⟨dep,hit⟩:=hf.it;rcases(by omega:x.state=0∨x.state=1∨x.state=2∨x.state=3∨(x.state=4∨x.state=5)∨x.state=6∨x.state=7) with k|k|k|k|k|k|k
 ·rw[at_tell_eqW k (by omega) rfl]
  exact at_tell0 ω w F b s x h k aw av ao ah ad
 ·rw[at_tell_eqW k (by omega) rfl]
  exact at_tell1 ω w F b s x h k aw av ao ah ad
 ·rw[at_tell_eqW k (by omega) rfl]
  exact at_tell2 ω w F b s x h k aw av ao ah ad dep hit hf.fin hf.reads hs (hf.nc (by omega))
 ·obtain⟨f,hi,hff⟩:=hf.s3 k;have e:x.tell s ⟨aw,⟨av,ah,ao⟩,ad,0⟩=PAt.told { x with inner:=.fetch (f.tell ⟨aw,⟨av,ah,ao⟩,ad,0⟩) } s:=by
   rw[at_tell_eqW k (by omega) rfl,hi];rfl
  rw[e] at hn' ⊢;exact at_tellF ω w F b s x h 3 k rfl aw av ao ah ad f hi dep hit hf.fin hf.reads hs (hw k f hi) hn'
 ·obtain⟨f,hi,hff⟩:=hf.s4 k;have e:x.tell s ⟨aw,⟨av,ah,ao⟩,ad,0⟩=PAt.told { x with inner:=.extend (f.tell ⟨aw,⟨av,ah,ao⟩,ad,0⟩) } s:=by
   rcases k with k|k
   ·rw[at_tell_eqW k (by omega) rfl,hi];rfl
   ·rw[at_tell_eqW k (by omega) rfl,hi];rfl
  rw[e] at hn' ⊢;have hlen:=hff.len;have hat:=hff.at_;exact at_tellE ω w F b s x h x.state rfl k aw av ao ah ad f hi hs hit.vf.need (by omega) hff.ok (by omega) hn'
 ·obtain⟨f,hi⟩:=hf.s6 k;have e:x.tell s ⟨aw,⟨av,ah,ao⟩,ad,0⟩=PAt.told { x with inner:=.commit (f.tell ⟨aw,⟨av,ah,ao⟩,ad,0⟩) } s:=by
   rw[at_tell_eqW k (by omega) rfl,hi];rfl
  rw[e] at hn' ⊢;exact at_tellC ω w F b s x h 6 k rfl aw av ao ah ad f hi (hf.co f hi).set hn'
 ·rw[at_tell_eqW k (by omega) rfl]
  exact at_tell7 ω w F b s x h k aw av ao ah ad
end Go.Proofs.YtfodmgaliclhfaaGreatDoor
