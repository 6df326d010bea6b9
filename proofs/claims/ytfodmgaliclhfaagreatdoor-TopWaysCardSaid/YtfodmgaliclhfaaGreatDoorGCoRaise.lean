/- Lemmas. -/
import Derived.Test.YtfodmgaliclhfaaGreatDoorGOkD
import Derived.Test.YtfodmgaliclhfaaGreatDoorShelf
namespace Go.Proofs.YtfodmgaliclhfaaGreatDoor
set_option linter.unusedVariables false
set_option linter.unusedSimpArgs false
set_option maxRecDepth 100000
set_option maxHeartbeats 16000000
open Go.RowKit Go.Proofs.Tryz Iq Jq
section
def inV (n:Nat):List Value:=[.int .i64 n]
def vI (l:List Nat):List Value:=l.flatMap inV
def coRows (c:PCo)(D:CoD):HP:=row 148 2 (.slice D.sA c.seen.length D.sC) c.seen.length (vS c.seen)*(row 54 2 (.slice D.cA c.cells.length D.cC) c.cells.length (vS c.cells)*(row 3 1 (.slice D.tA c.stripes.length D.tC) c.stripes.length (vI c.stripes)*row 93 3 (.slice D.wA c.was.length D.wC) c.was.length (vL c.was)))
def coHA (b:Nat)(c:PCo)(D:CoD):HP:=coB b c D*coRows c D
def coH (b:Nat)(c:PCo):HP:=ex fun D=>coHA b c D
section
variable {ω w : World} {F : HP} {b : Nat} {c : PCo} {D : CoD}
theorem Sat.coOf (h:Sat ω w (coHA b c D*F)):Sat ω w (coB b c D*(coRows c D*F)):=h.assoc
theorem Sat.coTo (h:Sat ω w (coB b c D*(coRows c D*F))):Sat ω w (coH b c*F):=Sat.to_ex D h.assoc'
theorem Sat.coSeen (h:Sat ω w (coRows c D*F)){i:Nat}(hi:i<c.seen.length):∃g,D.sA=some ⟨g,0,none⟩∧g<w.heap.size∧∀j,j<2→w.cell? (κ g (i*2+j))=(seV (c.seen.getD i (0,0)))[j]? :=
 (h.left.perm (Ac _).symm).assoc.rowAt (f:=seV) (fun _=>rfl) (0,0) hi
theorem Sat.coCells (h:Sat ω w (coRows c D*F)){i:Nat}(hi:i<c.cells.length):∃g,D.cA=some ⟨g,0,none⟩∧g<w.heap.size∧∀j,j<2→w.cell? (κ g (i*2+j))=(seV (c.cells.getD i (0,0)))[j]? :=
 (h.left.perm (Ac _).symm).assoc.right.assoc.rowAt (f:=seV) (fun _=>rfl) (0,0) hi
theorem Sat.coStripes (h:Sat ω w (coRows c D*F)){i:Nat}(hi:i<c.stripes.length):∃g,D.tA=some ⟨g,0,none⟩∧g<w.heap.size∧w.cell? (κ g i)=some (.int .i64 ((c.stripes.getD i 0:Nat):Int)):=by
 obtain⟨g,h1,h2,h3⟩:=(h.left.perm (Ac _).symm).assoc.right.assoc.right.assoc.rowAt (f:=inV) (fun _=>rfl) 0 hi
 exact⟨g,h1,h2,by have:=h3 0 (by omega);simpa [inV] using this⟩
theorem Sat.coWas (h:Sat ω w (coRows c D*F)){i:Nat}(hi:i<c.was.length):∃g,D.wA=some ⟨g,0,none⟩∧g<w.heap.size∧∀j,j<3→w.cell? (κ g (i*3+j))=(lkV (c.was.getD i PLk.zero))[j]? :=
 (h.left.perm (Ac _).symm).assoc.right.assoc.right.assoc.right.rowAt (f:=lkV) (fun _=>rfl) PLk.zero hi
end
def NextPost (w:World)(r:POp×Bool)(e:Ending)(w':World):Prop:=e=.returned (.tuple #[opA r.1,.bool r.2])∧Only Nob w w'
theorem Qc (ω w:World)(F:HP)(b:Nat)(c:PCo)(D:CoD)(h:Sat ω w (coB b c D*(coRows c D*F)))(hs:c.small)(hok:c.ok)(hf:c.rule.fin=0)(hst:c.state=0):
  Calls prog 399 #[.pointer b] w (NextPost w c.next):=by
 have HE:Hid (c.next=(POp.at' 3 (c.stripes.getD c.was.length 0),true)):=h_ (by unfold PCo.next;rw[if_neg (by simpa using hf),hst];rfl)
 rw[HE.o];have lt:=h.blk.lt;have c2:w.cell? (κ b 2)=some (.int .i64 ((0:Nat):Int)):=hf▸h.blk.cell 2;have c11:w.cell? (κ b 11)=some (.int .i64 ((0:Nat):Int)):=hst▸h.blk.cell 11;have c9:=h.blk.c 9;have c10:=h.blk.c 10;have hlt:=hok.take hf (by omega)
 obtain⟨gt,hA,hgt,ht⟩:=h.right.coStripes (i:=c.was.length) hlt;rw[hA] at c9;have g1:=hs.seen;have g2:=hs.cells;have g3:=hs.stripes;have g4:=hs.was;have g5:=hs.now;generalize c.stripes.getD c.was.length 0=s at *
 generalize c.stripes.length=n at *
 generalize c.was.length=m at *
 clear h hs hok hf hst HE;go_enter func399,ntmps399;go_wp2;refine rT 12 ?_;simp only[sD,sE,sF,sG];repeat still_step
 refine wpStill_nil ?_;go_wp2;refine bodyPost_ret (v:=.tuple #[opA (POp.at' 3 (s)),.bool true]) (by simp[results,results399,go_sem,opA,POp.at',POp.zero,PLk.zero, *]) rfl ⟨rfl,?_⟩
 repeat' (first|(with_reducible first|refine Only.setCell ?_ ?_ _|refine Only.alloc ?_ _|refine Only.drewN ?_ _|refine Only.drew ?_|exact Only.refl _ _)|(right;simp;done)|(right;simp;omega))
theorem Qb (ω w:World)(F:HP)(b:Nat)(c:PCo)(D:CoD)(h:Sat ω w (coB b c D*(coRows c D*F)))(hs:c.small)(hok:c.ok)(hf:c.rule.fin=0)(hst:c.state=1):
  Calls prog 399 #[.pointer b] w (NextPost w c.next):=by
 have HE:Hid (c.next=({POp.at' 4 (c.stripes.getD c.was.length 0) with was:=c.lock,lock:=⟨c.lock.ver,true,c.me⟩},true)):=h_ (by unfold PCo.next;rw[if_neg (by simpa using hf),hst];rfl)
 rw[HE.o];have lt:=h.blk.lt;have c2:w.cell? (κ b 2)=some (.int .i64 ((0:Nat):Int)):=hf▸h.blk.cell 2;have c11:w.cell? (κ b 11)=some (.int .i64 ((1:Nat):Int)):=hst▸h.blk.cell 11;have c9:=h.blk.c 9;have c10:=h.blk.c 10;have c13:=h.blk.c 13;have c14:=h.blk.c 14;have c15:=h.blk.c 15;have c5:=h.blk.c 5;have hlt:=hok.take hf (by omega)
 obtain⟨gt,hA,hgt,ht⟩:=h.right.coStripes (i:=c.was.length) hlt;rw[hA] at c9;have g1:=hs.seen;have g2:=hs.cells;have g3:=hs.stripes;have g4:=hs.was;have g5:=hs.now;generalize c.stripes.getD c.was.length 0=s at *
 generalize c.stripes.length=n at *
 generalize c.was.length=m at *
 generalize c.lock=l at *
 generalize c.me=me at *
 clear h hs hok hf hst HE;go_enter func399,ntmps399;go_wp2;go_region;all_goals
  go_wp2;refine rT 16 ?_;simp only[sD,sE,sF,sG];repeat still_step
  refine wpStill_nil ?_;go_wp2
 all_goals
  refine bodyPost_ret (v:=.tuple #[opA ({POp.at' 4 (s) with was:=l,lock:=⟨l.ver,true,me⟩}),.bool true]) (by simp[results,results399,go_sem,opA,POp.at',POp.zero,PLk.zero, *]) rfl ⟨rfl,?_⟩
  repeat' (first|(with_reducible first|refine Only.setCell ?_ ?_ _|refine Only.alloc ?_ _|refine Only.drewN ?_ _|refine Only.drew ?_|exact Only.refl _ _)|(right;simp;done)|(right;simp;omega))
theorem Qa (ω w:World)(F:HP)(b:Nat)(c:PCo)(D:CoD)(h:Sat ω w (coB b c D*(coRows c D*F)))(hs:c.small)(hok:c.ok)(hf:c.rule.fin=0)(hst:c.state=2):
  Calls prog 399 #[.pointer b] w (NextPost w c.next):=by
 have HE:Hid (c.next=(POp.at' 6 0,true)):=h_ (by unfold PCo.next;rw[if_neg (by simpa using hf),hst];rfl)
 rw[HE.o];have lt:=h.blk.lt;have c2:w.cell? (κ b 2)=some (.int .i64 ((0:Nat):Int)):=hf▸h.blk.cell 2;have c11:w.cell? (κ b 11)=some (.int .i64 ((2:Nat):Int)):=hst▸h.blk.cell 11;have g1:=hs.seen;have g2:=hs.cells;have g3:=hs.stripes;have g4:=hs.was;have g5:=hs.now;clear h hs hok hf hst HE;go_enter func399,ntmps399;go_wp2;refine bodyPost_ret (v:=.tuple #[opA (POp.at' 6 0),.bool true]) (by simp[results,results399,go_sem,opA,POp.at',POp.zero,PLk.zero, *]) rfl ⟨rfl,?_⟩
 repeat' (first|(with_reducible first|refine Only.setCell ?_ ?_ _|refine Only.alloc ?_ _|refine Only.drewN ?_ _|refine Only.drew ?_|exact Only.refl _ _)|(right;simp;done)|(right;simp;omega))
theorem QY (ω w:World)(F:HP)(b:Nat)(c:PCo)(D:CoD)(h:Sat ω w (coB b c D*(coRows c D*F)))(hs:c.small)(hok:c.ok)(hf:c.rule.fin=0)(hst:c.state=4):
  Calls prog 399 #[.pointer b] w (NextPost w c.next):=by
 have HE:Hid (c.next=(POp.at' 3 (c.seen.getD c.at_ (0,0)).1,true)):=h_ (by unfold PCo.next;rw[if_neg (by simpa using hf),hst];rfl)
 rw[HE.o];have lt:=h.blk.lt;have c2:w.cell? (κ b 2)=some (.int .i64 ((0:Nat):Int)):=hf▸h.blk.cell 2;have c11:w.cell? (κ b 11)=some (.int .i64 ((4:Nat):Int)):=hst▸h.blk.cell 11;have c7:=h.blk.c 7;have c12:=h.blk.c 12;have hlt:=hok.seen hf hst;obtain⟨gs,hA3,hgs,he⟩:=h.right.coSeen hlt;rw[hA3] at c7;have he0:w.cell? (κ gs (c.at_*2))=some (.int .i64 ((c.seen.getD c.at_ (0,0)).1:Int)):=he 0 (by omega)
 clear he;have g1:=hs.seen;have g2:=hs.cells;have g3:=hs.stripes;have g4:=hs.was;have g5:=hs.now;generalize (c.seen.getD c.at_ (0,0)).1=s at *
 generalize c.seen.length=n at *
 generalize c.at_=m at *
 clear h hs hok hf hst HE;go_enter func399,ntmps399;go_wp2;refine rT 12 ?_;simp only[sD,sE,sF,sG];repeat still_step
 refine wpStill_nil ?_;go_wp2;refine bodyPost_ret (v:=.tuple #[opA (POp.at' 3 s),.bool true]) (by simp[results,results399,go_sem,opA,POp.at',POp.zero,PLk.zero, *]) rfl ⟨rfl,?_⟩
 repeat' (first|(with_reducible first|refine Only.setCell ?_ ?_ _|refine Only.alloc ?_ _|refine Only.drewN ?_ _|refine Only.drew ?_|exact Only.refl _ _)|(right;simp;done)|(right;simp;omega))
theorem QX (ω w:World)(F:HP)(b:Nat)(c:PCo)(D:CoD)(h:Sat ω w (coB b c D*(coRows c D*F)))(hs:c.small)(hok:c.ok)(hf:c.rule.fin=0)(hst:c.state=5):
  Calls prog 399 #[.pointer b] w (NextPost w c.next):=by
 have HE:Hid (c.next=({POp.at' 2 (c.cells.getD c.at_ (0,0)).1 with word:=(c.cells.getD c.at_ (0,0)).2},true)):=h_ (by unfold PCo.next;rw[if_neg (by simpa using hf),hst];rfl)
 rw[HE.o];have lt:=h.blk.lt;have c2:w.cell? (κ b 2)=some (.int .i64 ((0:Nat):Int)):=hf▸h.blk.cell 2;have c11:w.cell? (κ b 11)=some (.int .i64 ((5:Nat):Int)):=hst▸h.blk.cell 11;have c8:=h.blk.c 8;have c12:=h.blk.c 12;have hlt:=hok.cells hf hst;obtain⟨gc,hA4,hgc,hc⟩:=h.right.coCells hlt;rw[hA4] at c8;have he0:w.cell? (κ gc (c.at_*2))=some (.int .i64 ((c.cells.getD c.at_ (0,0)).1:Int)):=hc 0 (by omega)
 have he1:w.cell? (κ gc (c.at_*2+1))=some (.int .u64 ((c.cells.getD c.at_ (0,0)).2:Int)):=hc 1 (by omega)
 clear hc;have g1:=hs.seen;have g2:=hs.cells;have g3:=hs.stripes;have g4:=hs.was;have g5:=hs.now;generalize (c.cells.getD c.at_ (0,0)).1=s at *
 generalize (c.cells.getD c.at_ (0,0)).2=v at *
 generalize c.cells.length=n at *
 generalize c.at_=m at *
 clear h hs hok hf hst HE;go_enter func399,ntmps399;go_wp2;refine rT 23 ?_;simp only[sD,sE,sF,sG];repeat still_step
 refine wpStill_nil ?_;go_wp2;refine bodyPost_ret (v:=.tuple #[opA ({POp.at' 2 s with word:=v}),.bool true]) (by simp[results,results399,go_sem,opA,POp.at',POp.zero,PLk.zero, *]) rfl ⟨rfl,?_⟩
 repeat' (first|(with_reducible first|refine Only.setCell ?_ ?_ _|refine Only.alloc ?_ _|refine Only.drewN ?_ _|refine Only.drew ?_|exact Only.refl _ _)|(right;simp;done)|(right;simp;omega))
theorem QV (ω w:World)(F:HP)(b:Nat)(c:PCo)(D:CoD)(h:Sat ω w (coB b c D*(coRows c D*F)))(hs:c.small)(hok:c.ok)(hf:c.rule.fin=0)(hst:c.state=7):
  Calls prog 399 #[.pointer b] w (NextPost w c.next):=by
 have HE:Hid (c.next=({POp.at' 5 (c.stripes.getD c.at_ 0) with lock:=c.was.getD c.at_ PLk.zero},true)):=h_ (by unfold PCo.next;rw[if_neg (by simpa using hf),hst];rfl)
 rw[HE.o];have lt:=h.blk.lt;have c2:w.cell? (κ b 2)=some (.int .i64 ((0:Nat):Int)):=hf▸h.blk.cell 2;have c11:w.cell? (κ b 11)=some (.int .i64 ((7:Nat):Int)):=hst▸h.blk.cell 11;have c9:=h.blk.c 9;have c10:=h.blk.c 10;have c12:=h.blk.c 12;have hlt:=hok.leave hf hst;obtain⟨gt,hA,hgt,ht⟩:=h.right.coStripes (i:=c.at_) (Nat.lt_of_lt_of_le hlt hok.was);rw[hA] at c9;obtain⟨gw,hA2,hgw,hw⟩:=h.right.coWas hlt;rw[hA2] at c10;have hlt2:=Nat.lt_of_lt_of_le hlt hok.was;have he0:w.cell? (κ gw (c.at_*3))=some (.int .u64 ((c.was.getD c.at_ PLk.zero).ver:Int)):=hw 0 (by omega)
 have he1:w.cell? (κ gw (c.at_*3+1))=some (.bool (c.was.getD c.at_ PLk.zero).held):=hw 1 (by omega)
 have he2:w.cell? (κ gw (c.at_*3+2))=some (.int .i64 ((c.was.getD c.at_ PLk.zero).own:Int)):=hw 2 (by omega)
 clear hw;have g1:=hs.seen;have g2:=hs.cells;have g3:=hs.stripes;have g4:=hs.was;have g5:=hs.now;generalize c.stripes.getD c.at_ 0=s at *
 generalize c.was.getD c.at_ PLk.zero=l at *
 generalize c.stripes.length=n at *
 generalize c.was.length=k at *
 generalize c.at_=m at *
 clear h hs hok hf hst HE;go_enter func399,ntmps399;go_wp2;refine rT 21 ?_;simp only[sD,sE,sF,sG];repeat still_step
 refine wpStill_nil ?_;go_wp2;refine bodyPost_ret (v:=.tuple #[opA ({POp.at' 5 (s) with lock:=l}),.bool true]) (by simp[results,results399,go_sem,opA,POp.at',POp.zero,PLk.zero, *]) rfl ⟨rfl,?_⟩
 repeat' (first|(with_reducible first|refine Only.setCell ?_ ?_ _|refine Only.alloc ?_ _|refine Only.drewN ?_ _|refine Only.drew ?_|exact Only.refl _ _)|(right;simp;done)|(right;simp;omega))
theorem QZ (ω w:World)(F:HP)(b:Nat)(c:PCo)(D:CoD)(h:Sat ω w (coB b c D*(coRows c D*F)))(hs:c.small)(hok:c.ok)(hf:c.rule.fin=0)(hst:c.state=3):
  Calls prog 399 #[.pointer b] w (NextPost w c.next):=by
 have HE:Hid (c.next=({POp.at' 7 0 with old:=c.now,word:=c.now+1},true)):=h_ (by unfold PCo.next;rw[if_neg (by simpa using hf),hst];rfl)
 rw[HE.o];have lt:=h.blk.lt;have c2:w.cell? (κ b 2)=some (.int .i64 ((0:Nat):Int)):=hf▸h.blk.cell 2;have c11:w.cell? (κ b 11)=some (.int .i64 ((3:Nat):Int)):=hst▸h.blk.cell 11;obtain⟨N,hN⟩:∃N:Int,(c.now:Int)=N:=⟨_,rfl⟩;have hN1:N≤4611686018427387904:=by rw[←hN];have:=hs.now;omega
 have hN0:0≤N:=by omega
 have c16:w.cell? (κ b 16)=some (.int .u64 N):=hN▸h.blk.cell 16;have g3:=hs.stripes;have HV:Hid (opA ({POp.at' 7 0 with old:=c.now,word:=c.now+1})=.agg #[ι 7,ι 0,υ N,υ (N+1),υ 0,.bool false,ι 0,υ 0,.bool false,ι 0]):=h_ (by rw[←hN];simp[opA,POp.at',POp.zero,PLk.zero])
 unfold NextPost;simp only;rw[HV.o];clear h hs hok hf hst HE hN HV;go_enter func399,ntmps399;go_wp2;refine rT 10 ?_;simp only[sD,sE,sF,sG];repeat still_step
 refine wpStill_nil ?_;go_wp2;refine bodyPost_ret (v:=.tuple #[.agg #[ι 7,ι 0,υ N,υ (N+1),υ 0,.bool false,ι 0,υ 0,.bool false,ι 0],.bool true]) (by simp[results,results399,go_sem, *]) rfl ⟨rfl,?_⟩
 repeat' (first|(with_reducible first|refine Only.setCell ?_ ?_ _|refine Only.alloc ?_ _|refine Only.drewN ?_ _|refine Only.drew ?_|exact Only.refl _ _)|(right;simp;done)|(right;simp;omega))
theorem QW (ω w:World)(F:HP)(b:Nat)(c:PCo)(D:CoD)(h:Sat ω w (coB b c D*(coRows c D*F)))(hs:c.small)(hok:c.ok)(hf:c.rule.fin=0)(hst:c.state=6):
  Calls prog 399 #[.pointer b] w (NextPost w c.next):=by
 have HE:Hid (c.next=({POp.at' 5 (c.stripes.getD c.at_ 0) with lock:=⟨c.now+1,false,0⟩},true)):=h_ (by unfold PCo.next;rw[if_neg (by simpa using hf),hst];rfl)
 rw[HE.o];have lt:=h.blk.lt;have c2:w.cell? (κ b 2)=some (.int .i64 ((0:Nat):Int)):=hf▸h.blk.cell 2;have c11:w.cell? (κ b 11)=some (.int .i64 ((6:Nat):Int)):=hst▸h.blk.cell 11;obtain⟨N,hN⟩:∃N:Int,(c.now:Int)=N:=⟨_,rfl⟩;have hN1:N≤4611686018427387904:=by rw[←hN];have:=hs.now;omega
 have hN0:0≤N:=by omega
 have c16:w.cell? (κ b 16)=some (.int .u64 N):=hN▸h.blk.cell 16;have c9:=h.blk.c 9;have c12:=h.blk.c 12;have hlt:=hok.give hf hst;obtain⟨gt,hA,hgt,ht⟩:=h.right.coStripes (i:=c.at_) hlt;rw[hA] at c9;have g3:=hs.stripes;generalize c.stripes.getD c.at_ 0=s at *
 generalize c.stripes.length=n at *
 generalize c.at_=m at *
 have HV:Hid (opA ({POp.at' 5 (s) with lock:=⟨c.now+1,false,0⟩})=.agg #[ι 5,s,υ 0,υ 0,υ 0,.bool false,ι 0,υ (N+1),.bool false,ι 0]):=h_ (by rw[←hN];simp[opA,POp.at',POp.zero,PLk.zero])
 unfold NextPost;simp only;rw[HV.o];clear h hs hok hf hst HE hN HV;go_enter func399,ntmps399;go_wp2;refine rT 17 ?_;simp only[sD,sE,sF,sG];repeat still_step
 refine wpStill_nil ?_;go_wp2;refine bodyPost_ret (v:=.tuple #[.agg #[ι 5,s,υ 0,υ 0,υ 0,.bool false,ι 0,υ (N+1),.bool false,ι 0],.bool true]) (by simp[results,results399,go_sem, *]) rfl ⟨rfl,?_⟩
 repeat' (first|(with_reducible first|refine Only.setCell ?_ ?_ _|refine Only.alloc ?_ _|refine Only.drewN ?_ _|refine Only.drew ?_|exact Only.refl _ _)|(right;simp;done)|(right;simp;omega))
theorem QU (ω w:World)(F:HP)(b:Nat)(c:PCo)(D:CoD)(h:Sat ω w (coB b c D*(coRows c D*F)))(hf:c.rule.fin≠0):
  Calls prog 399 #[.pointer b] w (NextPost w c.next):=by
 have HE:Hid (c.next=(POp.zero,false)):=h_ (by unfold PCo.next;rw[if_pos hf])
 rw[HE.o];have lt:=h.blk.lt;have c2:=h.blk.c 2;have d:((c.rule.fin:Int) != 0)=true:=by simpa using hf
 clear h hf HE;go_enter func399,ntmps399;go_wp2;refine bodyPost_ret (v:=.tuple #[opA POp.zero,.bool false]) (by simp[results,results399,go_sem,opA,POp.at',POp.zero,PLk.zero, *]) rfl ⟨rfl,?_⟩
 repeat' (first|(with_reducible first|refine Only.setCell ?_ ?_ _|refine Only.alloc ?_ _|refine Only.drewN ?_ _|refine Only.drew ?_|exact Only.refl _ _)|(right;simp;done)|(right;simp;omega))
theorem Sq (ω w:World)(F:HP)(b:Nat)(c:PCo)(h:Sat ω w (coH b c*F))(hs:c.small)(hok:c.ok):
  Calls prog 399 #[.pointer b] w (NextPost w c.next):=by
 obtain⟨D,h⟩:=h.of_ex;by_cases hf:c.rule.fin=0
 ·have h7:=hok.state;rcases(by omega:c.state=0∨c.state=1∨c.state=2∨c.state=3∨c.state=4∨c.state=5∨c.state=6∨c.state=7) with k|k|k|k|k|k|k|k
  ·exact Qc ω w F b c D h.coOf hs hok hf k
  ·exact Qb ω w F b c D h.coOf hs hok hf k
  ·exact Qa ω w F b c D h.coOf hs hok hf k
  ·exact QZ ω w F b c D h.coOf hs hok hf k
  ·exact QY ω w F b c D h.coOf hs hok hf k
  ·exact QX ω w F b c D h.coOf hs hok hf k
  ·exact QW ω w F b c D h.coOf hs hok hf k
  ·exact QV ω w F b c D h.coOf hs hok hf k
 ·exact QU ω w F b c D h.coOf hf
end
section
variable (ω w : World) (F : HP)
theorem Fw:(prog.info? 93).map (fun i=>(i.zero,i.size,i.bytes))=some (some (.agg #[υ 0,.bool false,ι 0]),3,24):=by kernel_rfl
def coOth (c:PCo)(D:CoD):HP:=row 148 2 (.slice D.sA c.seen.length D.sC) c.seen.length (vS c.seen)*(row 54 2 (.slice D.cA c.cells.length D.cC) c.cells.length (vS c.cells)*row 3 1 (.slice D.tA c.stripes.length D.tC) c.stripes.length (vI c.stripes))
theorem FF (c:PCo)(D:CoD):coRows c D=row 93 3 (.slice D.wA c.was.length D.wC) c.was.length (vL c.was)*coOth c D:=by
 unfold coRows coOth;ac_rfl
def TakePost (ω:World)(F:HP)(b:Nat)(c:PCo)(e:Ending)(w':World):Prop:=e=.returned (.tuple #[])∧Sat ω w' (coH b c*F)
theorem TakePost.of {ω w':World}{F:HP}{b:Nat}{c:PCo}{D:CoD}(h:Sat ω w' (coB b c D*(coRows c D*F))):TakePost ω F b c (.returned (.tuple #[])) w':=⟨rfl,h.coTo⟩
theorem Gu (b:Nat)(c:PCo)(D:CoD)(h:Sat ω w (coB b c D*(coRows c D*F)))(a:PAns)(hst:c.state=0)(hl:a.lock.held=true):
  Calls prog 402 #[.pointer b,ansA a] w (TakePost ω F b (c.take a)):=by
 have HE:Hid (c.take a=c.heldBy a.lock):=h_ (by unfold PCo.take;rw[if_pos ⟨hst,hl⟩])
 rw[HE.o];obtain⟨xw,⟨xv,xh,xo⟩,xd,xe⟩:=a;have lt:=h.blk.lt;have lt1:b<w.heap.size+1:=by omega
 have H:=h_ h;simp only at hl;subst hl;have c11:w.cell? (κ b 11)=some (.int .i64 ((0:Nat):Int)):=hst▸h.blk.cell 11;have HS:Hid (∀w1,Sat ω w1 (coB b c D*(coRows c D*F))→Calls prog 408 #[.pointer b,.agg #[υ xv,.bool true,xo]] w1 (Rets ω (coRows c D*F) (.tuple #[]) (coB b (c.heldBy ⟨xv,true,xo⟩) D))):=h_ (fun w1 h1=>Lw ω w1 _ b c D h1 ⟨xv,true,xo⟩)
 have HR:Hid (coRows (c.heldBy ⟨xv,true,xo⟩) D=coRows c D):=h_ (by
  unfold PCo.heldBy;simp only;split<;>(try unfold PCo.stop PCo.leave;simp only;split)<;>rfl)
 have HF:Hid (∀w1,Sat ω w1 (coB b (c.heldBy ⟨xv,true,xo⟩) D*(coRows c D*F))→TakePost ω F b (c.heldBy ⟨xv,true,xo⟩) (.returned (.tuple #[])) w1):=h_ (fun w1 h1=>TakePost.of (D:=D) (by rw[HR.o];exact h1))
 generalize c.heldBy ⟨xv,true,xo⟩=r at *
 simp only[ansA];go_enter func402,ntmps402;go_wp2_with (go_at_call 408;refine(HS.o _ (H.o.junk _)).mono ?_;rintro e w1 ⟨rfl,hs⟩;have HX:=h_ hs);go_end0;exact HF.o _ HX.o
theorem Gv (b:Nat)(c:PCo)(D:CoD)(h:Sat ω w (coB b c D*(coRows c D*F)))(a:PAns)(hst:c.state=0)(hl:a.lock.held=false):
  Calls prog 402 #[.pointer b,ansA a] w (TakePost ω F b (c.take a)):=by
 have HE:Hid (c.take a={c with lock:=a.lock,state:=1}):=h_ (by unfold PCo.take;rw[if_neg (by rw[hl];simp),if_pos hst])
 rw[HE.o];obtain⟨xw,⟨xv,xh,xo⟩,xd,xe⟩:=a;have lt:=h.blk.lt;have lt1:b<w.heap.size+1:=by omega
 have H:=h_ h;simp only at hl;subst hl;have c11:w.cell? (κ b 11)=some (.int .i64 ((0:Nat):Int)):=hst▸h.blk.cell 11;have c13:=h.blk.c 13;have c14:=h.blk.c 14;have c15:=h.blk.c 15;have fz:=h.blk.frozen;have HF:Hid (∀w1,Sat ω w1 (coB b c D*(coRows c D*F))→TakePost ω F b {c with lock:=⟨xv,false,xo⟩,state:=1} (.returned (.tuple #[])) ((((w1.setCell (κ b 13) (υ xv)).setCell (κ b 14) (.bool false)).setCell (κ b 15) xo).setCell (κ b 11) (ι 1))):=h_ (fun w1 h1=>TakePost.of (D:=D) ((((h1.set 13 _).set 14 _).set 15 _).put 11 _ rfl))
 have HJ:Hid (∀c' w1 o,TakePost ω F b c' (.returned (.tuple #[])) w1→TakePost ω F b c' (.returned (.tuple #[])) (w1.alloc o)):=h_ (fun c' w1 o h1=>⟨rfl,h1.2.junk _⟩)
 simp only[ansA];go_enter func402,ntmps402;go_wp2;go_end0;first
  |exact HF.o _ (H.o.junk _)
  |exact HJ.o _ _ _ (HF.o _ H.o)
theorem Gt (b:Nat)(c:PCo)(D:CoD)(h:Sat ω w (coB b c D*(coRows c D*F)))(a:PAns)(hst:c.state=1)(hl:a.done=false):
  Calls prog 402 #[.pointer b,ansA a] w (TakePost ω F b (c.take a)):=by
 have HE:Hid (c.take a={c with state:=0}):=h_ (by unfold PCo.take;rw[if_neg (by rw[hst];simp),if_neg (by rw[hst];simp),if_neg (by rw[hl];simp)])
 rw[HE.o];obtain⟨xw,⟨xv,xh,xo⟩,xd,xe⟩:=a;have lt:=h.blk.lt;have lt1:b<w.heap.size+1:=by omega
 have H:=h_ h;simp only at hl;subst hl;have c11:w.cell? (κ b 11)=some (.int .i64 ((1:Nat):Int)):=hst▸h.blk.cell 11;have fz:=h.blk.frozen;have HF:Hid (∀w1,Sat ω w1 (coB b c D*(coRows c D*F))→TakePost ω F b {c with state:=0} (.returned (.tuple #[])) (w1.setCell (κ b 11) (ι 0))):=h_ (fun w1 h1=>TakePost.of (D:=D) (h1.put 11 _ rfl))
 have HJ:Hid (∀c' w1 o,TakePost ω F b c' (.returned (.tuple #[])) w1→TakePost ω F b c' (.returned (.tuple #[])) (w1.alloc o)):=h_ (fun c' w1 o h1=>⟨rfl,h1.2.junk _⟩)
 simp only[ansA];go_enter func402,ntmps402;go_wp2;go_end0;first
  |exact HF.o _ (H.o.junk _)
  |exact HJ.o _ _ _ (HF.o _ H.o)
theorem Iv (b:Nat)(c:PCo)(D:CoD)(h:Sat ω w (coB b c D*(coRows c D*F)))(hs:c.small)(a:PAns)(hst:c.state=1)(hl:a.done=true):
  Calls prog 402 #[.pointer b,ansA a] w (TakePost ω F b (c.take a)):=by
 have HE:Hid (c.take a={c with was:=c.was++[c.lock]}.more):=h_ (by unfold PCo.take;rw[if_neg (by rw[hst];simp),if_neg (by rw[hst];simp),if_pos hl])
 rw[HE.o];obtain⟨xw,⟨xv,xh,xo⟩,xd,xe⟩:=a;have lt:=h.blk.lt;have lt1:b<w.heap.size+1:=by omega
 have H:=h_ h;simp only at hl;subst hl;have hw:=hs.was;have c11:w.cell? (κ b 11)=some (.int .i64 ((1:Nat):Int)):=hst▸h.blk.cell 11;have c10:=h.blk.c 10;have c13:=h.blk.c 13;have c14:=h.blk.c 14;have c15:=h.blk.c 15;have fz:=h.blk.frozen;obtain⟨i0,hi,hz⟩:=Option.map_eq_some_iff.1 Fw;simp only[Prod.mk.injEq] at hz;obtain⟨hz0,hz1,hz2⟩:=hz;have HI:=h_ hi;have HZ0:=h_ hz0;have HZ1:=h_ hz1;have HZ2:=h_ hz2;obtain⟨n,hn⟩:∃n,c.was.length=n:=⟨_,rfl⟩;rw[hn] at c10 hw;have HC10:Hid (∀w1,Blk w1 b 258 (coC c D)→w1.cell? (κ b 10)=some (.slice D.wA n D.wC)):=h_ (fun w1 h1=>hn▸h1.cell 10)
 have HAP:Hid (Sat ω ((w.alloc (.cells #[υ xw,υ xv,.bool xh,xo,.bool true,xe] 100)).alloc (.cells #[υ c.lock.ver,.bool c.lock.held,c.lock.own] 93)).drew (row 93 3 (.slice D.wA n D.wC) n (vL c.was)*(coB b c D*(coOth c D*F)))):=h_ (by
  refine Sat.drew (Sat.junk (Sat.junk ?_ _) _);rw[←hn];have h9:=h;rw[FF] at h9;exact h9.perm (by ac_rfl))
 have HRD:Hid (Reads ((w.alloc (.cells #[υ xw,υ xv,.bool xh,xo,.bool true,xe] 100)).alloc (.cells #[υ c.lock.ver,.bool c.lock.held,c.lock.own] 93)).drew (w.heap.size+1+1) 3 (some ⟨w.heap.size+1,0,none⟩) 1 (lkV c.lock)):=h_ (by
  have h9:=(Reads.of_blk (size:=3) (n:=1) (Blk.new (w.alloc (.cells #[υ xw,υ xv,.bool xh,xo,.bool true,xe] 100)) 93 #[υ c.lock.ver,.bool c.lock.held,c.lock.own]) rfl).drew;simp only[World.size_alloc] at h9;exact h9)
 have HON:Hid (∀u∈lkV c.lock,u.oneCell'=true):=h_ (by intro u hu;simp[lkV] at hu;rcases hu with rfl|rfl|rfl<;>rfl)
 have HF:Hid (∀w1 A' c',Sat ω w1 (row 93 3 (.slice A' (n+1) c') (n+1) (vL c.was++lkV c.lock)*(coB b c D*(coOth c D*F)))→Sat ω (w1.setCell (κ b 10) (.slice A' (n+1) c')) (coB b {c with was:=c.was++[c.lock]} {D with wA:=A',wC:=c'}*(coRows {c with was:=c.was++[c.lock]} {D with wA:=A',wC:=c'}*F))):=h_ (fun w1 A' c' h1=>by
  have h2:=h1.swap.put 10 (.slice A' (n+1) c') (cs':=coC {c with was:=c.was++[c.lock]} {D with wA:=A',wC:=c'}) (by
   unfold coC;simp only[List.length_append,List.length_cons,List.length_nil,hn];rfl)
  rw[FF];have e:vL (c.was++[c.lock])=vL c.was++lkV c.lock:=by simp[vL]
  simp only[List.length_append,List.length_cons,List.length_nil,hn,e];exact h2.perm (by unfold coB coOth;ac_rfl))
 have HM:=h_ (fun w1 D' (h1:Sat ω w1 (coB b {c with was:=c.was++[c.lock]} D'*(coRows {c with was:=c.was++[c.lock]} D'*F)))=>Lv ω w1 _ b {c with was:=c.was++[c.lock]} D' h1)
 have HD:Hid (∀w1 D',Sat ω w1 (coB b {c with was:=c.was++[c.lock]}.more D'*(coRows {c with was:=c.was++[c.lock]} D'*F))→TakePost ω F b {c with was:=c.was++[c.lock]}.more (.returned (.tuple #[])) w1):=h_ (fun w1 D' h1=>TakePost.of (D:=D') h1)
 simp only[ansA];go_enter func402,ntmps402;go_wp2;refine wp_region_any (by kernel_rfl) ?_
 try (change wpAny _ _ _ _ _ _ _ (World.drew _))
 refine tF 0 ?_ rfl ?_ (tF 1 ?_ rfl ?_ (tF 2 ?_ rfl ?_ (tF 3 ?_ rfl ?_ (tF 5 ?_ rfl ?_ (tF 6 ?_ rfl ?_ (tF 7 ?_ rfl ?_ ?_))))));all_goals (try (
  intro w;go_simp<;>(try with_reducible rfl)))
 refine rF [4,8] ?_;refine AllReady.cons rfl (fun K hK=>?_) ?_
 ·go_simp;refine hK _ _ ?_;refine oF 8 rfl fun K hK=>?_
  go_simp;refine hK _ _ ?_;refine oF 9 rfl fun K hK=>?_
  go_simp;refine hK _ _ ?_;refine oF 10 rfl fun K hK=>?_
  refine BI 169 93 3 24 underlying169 HI.o HZ0.o HZ1.o HZ2.o HAP.o HRD.o HON.o ?_;intro A' c' w1 hs;have kb:=hs.right.blk;have kf:=kb.frozen;have k10:w1.cell? (κ b 10)=some (.slice D.wA n D.wC):=HC10.o _ kb;have HS:=h_ hs;refine hK _ _ ?_;refine tF 11 ?_ rfl ?_ (tF 12 ?_ rfl ?_ ?_);all_goals (try (
   intro w;go_simp<;>(try with_reducible rfl)))
  refine oF 13 rfl fun K hK=>?_
  go_simp;refine hK _ _ ?_;refine dF ?_;go_wp2_with (go_at_call 164;refine(HM.o _ _ (by repeat' (first|(with_reducible refine Sat.drew ?_)|exact HF.o _ _ _ HS.o))).mono ?_;rintro e w3 ⟨rfl,hs⟩;have HY:=h_ hs)
  go_end0;exact HD.o _ _ HY.o
 refine nF rfl fun K hK=>?_
 ·go_simp;refine hK _ _ ?_;refine rF [4,9] ?_;refine AllReady.cons rfl (fun K hK=>?_) ?_
  ·go_simp;refine hK _ _ ?_;refine oF 9 rfl fun K hK=>?_
   go_simp;refine hK _ _ ?_;refine oF 10 rfl fun K hK=>?_
   refine BI 169 93 3 24 underlying169 HI.o HZ0.o HZ1.o HZ2.o HAP.o HRD.o HON.o ?_;intro A' c' w1 hs;have kb:=hs.right.blk;have kf:=kb.frozen;have k10:w1.cell? (κ b 10)=some (.slice D.wA n D.wC):=HC10.o _ kb;have HS:=h_ hs;refine hK _ _ ?_;refine tF 11 ?_ rfl ?_ (tF 12 ?_ rfl ?_ ?_);all_goals (try (
    intro w;go_simp<;>(try with_reducible rfl)))
   refine oF 13 rfl fun K hK=>?_
   go_simp;refine hK _ _ ?_;refine dF ?_;go_wp2_with (go_at_call 164;refine(HM.o _ _ (by repeat' (first|(with_reducible refine Sat.drew ?_)|exact HF.o _ _ _ HS.o))).mono ?_;rintro e w3 ⟨rfl,hs⟩;have HY:=h_ hs)
   go_end0;exact HD.o _ _ HY.o
  refine nF rfl fun K hK=>?_
  ·go_simp;refine hK _ _ ?_;refine oF 4 rfl fun K hK=>?_
   go_simp;refine hK _ _ ?_;refine oF 10 rfl fun K hK=>?_
   refine BI 169 93 3 24 underlying169 HI.o HZ0.o HZ1.o HZ2.o HAP.o HRD.o HON.o ?_;intro A' c' w1 hs;have kb:=hs.right.blk;have kf:=kb.frozen;have k10:w1.cell? (κ b 10)=some (.slice D.wA n D.wC):=HC10.o _ kb;have HS:=h_ hs;refine hK _ _ ?_;refine tF 11 ?_ rfl ?_ (tF 12 ?_ rfl ?_ ?_);all_goals (try (
    intro w;go_simp<;>(try with_reducible rfl)))
   refine oF 13 rfl fun K hK=>?_
   go_simp;refine hK _ _ ?_;refine dF ?_;go_wp2_with (go_at_call 164;refine(HM.o _ _ (by repeat' (first|(with_reducible refine Sat.drew ?_)|exact HF.o _ _ _ HS.o))).mono ?_;rintro e w3 ⟨rfl,hs⟩;have HY:=h_ hs)
   go_end0;exact HD.o _ _ HY.o
end
theorem Bg (x:Nat):∀(l:List Nat),l.Pairwise (· < ·)→l.findIdx? (·==x)=if l.contains x then some (l.countP (fun y=>decide (y<x))) else none:=by
 intro l;induction l with
 |nil=>intro _;rfl
 |cons y l ih =>
  intro h;obtain⟨h1,h2⟩:=List.pairwise_cons.1 h;rw[List.findIdx?_cons];by_cases e:y=x
  ·subst e;have hc:l.countP (fun z=>decide (z<y))=0:=by
    rw[List.countP_eq_zero];intro z hz
    have:=h1 z hz
    simp;omega
   simp[hc]
  ·have e1:(y==x)=false:=by simpa using e
   have e2:(x==y)=false:=by simpa using fun h=>e h.symm
   simp only[e1,Bool.false_eq_true,if_false,ih h2,List.contains_cons,e2,Bool.false_or];by_cases hx:l.contains x=true
   ·have hm:x∈l:=by simpa using hx
    have:=h1 x hm
    simp only[hx,if_true,Option.map_some,List.countP_cons,decide_eq_true this]
   ·simp only[hx,if_false,Option.map_none,Bool.false_eq_true]
def zI (l:List Nat):List Int:=l.map fun n:Nat=>(n:Int)
theorem TJ (l:List Nat):(zI l).length=l.length:=by simp[zI]
theorem KO {l:List Nat}(h:l.Pairwise (· < ·)):((zI l).take l.length).Pairwise (·≤·):=by
 rw[List.take_of_length_le (by simp[zI]),zI,List.pairwise_map]
 exact h.imp fun h=>by omega
theorem ND (l:List Nat)(x:Nat):((zI l).take l.length).countP (fun y=>decide (y<(x:Int)))=l.countP (fun y=>decide (y<x)):=by
 rw[List.take_of_length_le (by simp[zI]),zI,List.countP_map]
 congr 1
 funext y;simp
theorem SC (l:List Nat)(x:Nat):((zI l).take l.length).contains (x:Int)=l.contains x:=by
 rw[List.take_of_length_le (by simp[zI]),Bool.eq_iff_iff]
 simp[zI];exact⟨fun⟨a,ha,e⟩=>(by omega:a=x)▸ha,fun h=>⟨x,h,rfl⟩⟩
theorem QL {l:List Nat}{x:Nat}(h:l.contains x=true)(hs:l.Pairwise (· < ·)):l.countP (fun y=>decide (y<x))<l.length:=by
 have h1:=Bg x l hs;rw[if_pos h] at h1;exact(List.findIdx?_eq_some_iff_getElem.1 h1).1
theorem Cd {P:Program}{f:FuncId}{args:Array Value}{w:World}{k a:Nat}{v:Value}(h:Calls P f args (w.drewN (k+a)) fun e w'=>e=.returned v∧∃m,w'=(w.drewN (k+a)).drewN m):Calls P f args (w.drewN (k+a)) fun e w''=>e=.returned v∧∃n,w''=w.drewN (k+n) :=
 h.mono fun _ _ ⟨he,m,hm⟩=>⟨he,a+m,by rw[hm,World.drewN_drewN,Nat.add_assoc]⟩
theorem Sv (w:World)(g n c x:Nat)(l:List Nat)(hn:l.length=n)(hb:n≤1000)(hc:∀j,j<n→w.cell? (κ g j)=some (.int .i64 ((l.getD j 0:Nat):Int)))(hs:l.Pairwise (· < ·)):
  Calls prog 411 #[.slice (some ⟨g,0,none⟩) n c,x] w fun e w'=>e=.returned (.tuple #[(l.countP (fun y=>decide (y<x)):Nat),.bool (l.contains x)])∧∃q,w'=w.drewN q:=by
 subst hn;have h:=Tryz.slices_BinarySearch_int g 0 l.length c (zI l) x w (by simp[zI]) (by omega) (fun j hj=>by
  have hj':j<l.length:=by simpa [zI] using hj
  rw[Nat.zero_add,hc j hj'];simp[zI,hj']) (KO hs)
 rw[ND,SC] at h;exact h
theorem Sat.coStripesAll {ω w:World}{F:HP}{c:PCo}{D:CoD}(h:Sat ω w (coRows c D*F))(hp:0<c.stripes.length):∃g,D.tA=some ⟨g,0,none⟩∧g<w.heap.size∧∀j,j<c.stripes.length→w.cell? (κ g j)=some (.int .i64 ((c.stripes.getD j 0:Nat):Int)):=by
 obtain⟨g,h1,h2,_⟩:=h.coStripes hp;refine⟨g,h1,h2,fun j hj=>?_⟩
 obtain⟨g',h3,_,h4⟩:=h.coStripes hj;rw[h1] at h3;injection h3 with h3
 injection h3 with h3
 rw[h3];exact h4
theorem KA {n:Nat}{c:PCo}(h:¬c.at_<c.seen.length):PCo.proveF (n+1) c=c.begin:=by unfold PCo.proveF;rw[if_neg h]
theorem Jz {n:Nat}{c:PCo}(h:c.at_<c.seen.length)(hs:c.stripes.Pairwise (· < ·))(hc:c.stripes.contains (c.seen.getD c.at_ (0,0)).1=false):PCo.proveF (n+1) c=c:=by
 unfold PCo.proveF;rw[if_pos h,Bg _ _ hs,hc];rfl
theorem KC {n:Nat}{c:PCo}(h:c.at_<c.seen.length)(hs:c.stripes.Pairwise (· < ·))(hc:c.stripes.contains (c.seen.getD c.at_ (0,0)).1=true)(hv:(c.was.getD (c.stripes.countP fun y=>decide (y<(c.seen.getD c.at_ (0,0)).1)) PLk.zero).ver≠(c.seen.getD c.at_ (0,0)).2):PCo.proveF (n+1) c=c.stop 5 0 (-1):=by
 rw[PCo.proveF,if_pos h,Bg _ _ hs,hc];simp only[if_true];rw[if_pos hv]
theorem IG {n:Nat}{c:PCo}(h:c.at_<c.seen.length)(hs:c.stripes.Pairwise (· < ·))(hc:c.stripes.contains (c.seen.getD c.at_ (0,0)).1=true)(hv:¬(c.was.getD (c.stripes.countP fun y=>decide (y<(c.seen.getD c.at_ (0,0)).1)) PLk.zero).ver≠(c.seen.getD c.at_ (0,0)).2):PCo.proveF (n+1) c=PCo.proveF n {c with at_:=c.at_+1}:=by
 rw[PCo.proveF,if_pos h,Bg _ _ hs,hc];simp only[if_true];rw[if_neg hv]
theorem DF (c:PCo)(D:CoD):coRows c.begin D=coRows c D:=by
 unfold PCo.begin PCo.write PCo.give;simp only;split
 ·split<;>rfl
 ·rfl
theorem Bz (c:PCo)(D:CoD)(a b:Nat)(i:Int):coRows (c.stop a b i) D=coRows c D:=by
 unfold PCo.stop PCo.leave;simp only;split<;>rfl
theorem Iz (ω w:World)(F:HP)(b:Nat)(c:PCo)(D:CoD)(h:Sat ω w (coB b c D*(coRows c D*F)))(hs:c.small)(hp:0<c.stripes.length)(hso:c.stripes.Pairwise (· < ·))(hfu:c.was.length=c.stripes.length)(hat:c.at_≤1000):
  Calls prog 410 #[.pointer b] w (TakePost ω F b c.prove):=by
 have g1:=hs.seen;have g3:=hs.stripes;obtain⟨R,hR⟩:∃R,R=coRows c D*F:=⟨_,rfl⟩;obtain⟨r,hr⟩:∃r,c.prove=r:=⟨_,rfl⟩;rw[hr];rw[←hR] at h;have HR:=h_ hr;obtain⟨n,hn⟩:∃n,c.seen.length=n:=⟨_,rfl⟩;obtain⟨m,hm⟩:∃m,c.stripes.length=m:=⟨_,rfl⟩;rw[hn] at g1;rw[hm] at g3 hfu hp;have H:=h_ h;have fz:=h.blk.frozen;have lt:=h.blk.lt;have c11:=h.blk.c 11;have HL:Hid (∀w1,Sat ω w1 (coB b c D*R)→Sat ω (w1.setCell (κ b 11) (ι 4)) (coB b {c with state:=4,at_:=c.at_} D*R)):=h_ (fun w1 h1=>h1.put 11 _ rfl)
 have HA:Hid (∀w1 (k:Nat),Sat ω w1 (coB b {c with state:=4,at_:=k} D*R)→Sat ω (w1.setCell (κ b 12) (.int .i64 ((k:Int)+1))) (coB b {c with state:=4,at_:=k+1} D*R)):=h_ (fun w1 k h1=>h1.put 12 _ rfl)
 have HC:Hid (∀w1 (k:Nat),Sat ω w1 (coB b {c with state:=4,at_:=k} D*R)→(w1.cell? (κ b 12)=some (.int .i64 k)∧w1.cell? (κ b 7)=some (.slice D.sA n D.sC)∧w1.cell? (κ b 9)=some (.slice D.tA m D.tC)∧w1.cell? (κ b 10)=some (.slice D.wA m D.wC)∧(∀i,w1.frozen? (κ b i)=false)∧b<w1.heap.size)):=h_ (fun w1 k h1=>⟨h1.blk.cell 12,hn▸h1.blk.cell 7,hm▸h1.blk.cell 9,hfu▸h1.blk.cell 10,h1.blk.frozen,h1.blk.lt⟩)
 have HSE:Hid (∀w1 (k:Nat),Sat ω w1 (coB b {c with state:=4,at_:=k} D*R)→k<n→∃gs,D.sA=some ⟨gs,0,none⟩∧gs<w1.heap.size∧w1.cell? (κ gs (k*2))=some (.int .i64 ((c.seen.getD k (0,0)).1:Int))∧w1.cell? (κ gs (k*2+1))=some (.int .u64 ((c.seen.getD k (0,0)).2:Int))):=h_ (fun w1 k h1 hk=>by
  rw[hR] at h1;obtain⟨g,h2,h3,h4⟩:=h1.right.coSeen (i:=k) (hn▸hk);exact⟨g,h2,h3,h4 0 (by omega),h4 1 (by omega)⟩)
 have HST:Hid (∀w1 (k:Nat),Sat ω w1 (coB b {c with state:=4,at_:=k} D*R)→∃gt,D.tA=some ⟨gt,0,none⟩∧gt<w1.heap.size∧∀j,j<m→w1.cell? (κ gt j)=some (.int .i64 ((c.stripes.getD j 0:Nat):Int))):=h_ (fun w1 k h1=>by
  rw[hR] at h1
  have:=h1.right.coStripesAll (hm▸hp)
  rw[hm] at this;exact this)
 have HWA:Hid (∀w1 (k i:Nat),Sat ω w1 (coB b {c with state:=4,at_:=k} D*R)→i<m→∃gw,D.wA=some ⟨gw,0,none⟩∧gw<w1.heap.size∧w1.cell? (κ gw (i*3))=some (.int .u64 ((c.was.getD i PLk.zero).ver:Int))):=h_ (fun w1 k i h1 hi=>by
  rw[hR] at h1;obtain⟨g,h2,h3,h4⟩:=h1.right.coWas (i:=i) (hfu▸hi);exact⟨g,h2,h3,h4 0 (by omega)⟩)
 have HBS:Hid (∀w1 gt x,(∀j,j<m→w1.cell? (κ gt j)=some (.int .i64 ((c.stripes.getD j 0:Nat):Int)))→Calls prog 411 #[.slice (some ⟨gt,0,none⟩) m D.tC,(x:Nat)] w1 fun e w'=>e=.returned (.tuple #[(c.stripes.countP (fun y=>decide (y<x)):Nat),.bool (c.stripes.contains x)])∧∃q,w'=w1.drewN q):=h_ (fun w1 gt x hc=>Sv w1 gt m D.tC x c.stripes hm g3 hc hso)
 have HCL:Hid (∀x,c.stripes.contains x=true→c.stripes.countP (fun y=>decide (y<x))<m):=h_ (fun x hx=>hm▸QL hx hso)
 have HN:=h_ hn;have HSO:=h_ hso;have HFB:Hid (∀w1 k,Sat ω w1 (coB b {c with state:=4,at_:=k} D*R)→Calls prog 401 #[.pointer b] w1 (Rets ω R (.tuple #[]) (coB b (PCo.begin {c with state:=4,at_:=k}) D))):=h_ (fun w1 k h1=>JB ω w1 R b _ D h1)
 have HFS:Hid (∀w1 k,Sat ω w1 (coB b {c with state:=4,at_:=k} D*R)→Calls prog 409 #[.pointer b,ι 5,ι 0,ι (-1)] w1 (Rets ω R (.tuple #[]) (coB b (PCo.stop {c with state:=4,at_:=k} 5 0 (-1)) D))):=h_ (fun w1 k h1=>Gw ω w1 R b _ D h1 5 0 (-1))
 have HD:Hid (∀w1 r',r'=r→coRows r' D=coRows c D→Sat ω w1 (coB b r' D*R)→TakePost ω F b r (.returned (.tuple #[])) w1):=h_ (fun w1 r' he hc h1=>by
  subst he;refine TakePost.of (D:=D) ?_;rw[hc,←hR];exact h1)
 have HST0:Hid (Hid (PCo.proveF (n+1) {c with state:=4,at_:=c.at_}=r)):=h_ (by rw[←hr,←hn];rfl)
 go_enter func410,ntmps410;go_wp2;go_loopw [2,3] (fun _ _ wr=>∃k f:Nat,k≤n+1000∧n<k+f+1∧Hid (PCo.proveF (f+1) {c with state:=4,at_:=k}=r)∧Hid (Sat ω wr (coB b {c with state:=4,at_:=k} D*R))) (fun _ _ wr=>match wr.cell? (κ b 12) with|some v=>n+1000-(intOf v).toNat|none=>0)
 case atStart=>exact⟨c.at_,n,by omega,by omega,HST0.o,HL.o _ H.o⟩
 case round =>
  obtain⟨k,f,hk,hf,HP,HX⟩:=hrel;obtain⟨c12,c7,c9,c10,fz1,lt1⟩:=HC.o _ _ HX.o;by_cases hlt:k<n
  ·obtain⟨gs,hs1,hs2,hs3,hs4⟩:=HSE.o _ _ HX.o hlt;obtain⟨gt,ht1,ht2,ht3⟩:=HST.o _ _ HX.o;rw[hs1] at c7;rw[ht1] at c9;have HB:=h_ (fun q=>HBS.o (wr.drewN q) gt (c.seen.getD k (0,0)).1 ht3)
   obtain⟨s1,he1⟩:∃s1,(c.seen.getD k (0,0)).1=s1:=⟨_,rfl⟩;obtain⟨v1,he2⟩:∃v1,(c.seen.getD k (0,0)).2=v1:=⟨_,rfl⟩;rw[he1] at hs3 HB;rw[he2] at hs4;have HE1:=h_ he1;have HE2:=h_ he2;have HCS:=h_ (HCL.o s1);obtain⟨i,hi⟩:∃i,c.stripes.countP (fun y=>decide (y<s1))=i:=⟨_,rfl⟩
   obtain⟨has,hh⟩:∃has,c.stripes.contains s1=has:=⟨_,rfl⟩;rw[hi,hh] at HB HCS;have HI:=h_ hi;have HH:=h_ hh;cases has
   ·go_wp2;go_quiet (fail);go_wp2;go_quiet ((go_at_call 411;exact Cd (HB.o _)));go_wp2;go_end0;exact HD.o _ {c with state:=4,at_:=k} (by rw[←HP.o];exact(Jz (c:={c with state:=4,at_:=k}) (by show k<c.seen.length;rw[HN.o];exact hlt) HSO.o (by show c.stripes.contains (c.seen.getD k (0,0)).1=false;rw[HE1.o];exact HH.o)).symm) rfl (HX.o.drewN _)
   ·have him:=HCS.o rfl;obtain⟨gw,hw1,hw2,hw3⟩:=HWA.o _ _ i HX.o him;rw[hw1] at c10;obtain⟨vv,hv⟩:∃vv,(c.was.getD i PLk.zero).ver=vv:=⟨_,rfl⟩;rw[hv] at hw3;have HV:=h_ hv;have HCT:Hid (c.stripes.contains (c.seen.getD k (0,0)).1=true):=h_ (by rw[HE1.o];exact HH.o)
    have HCV:Hid ((c.was.getD (c.stripes.countP fun y=>decide (y<(c.seen.getD k (0,0)).1)) PLk.zero).ver=vv):=h_ (by rw[HE1.o,HI.o];exact HV.o)
    have HKL:Hid (k<c.seen.length):=h_ (by rw[HN.o];exact hlt)
    by_cases hq:vv=v1
    ·obtain⟨f',rfl⟩:∃f',f=f'+1:=⟨f-1,by omega⟩
     have HP2:Hid (PCo.proveF (f'+1) {c with state:=4,at_:=k+1}=r):=h_ (by rw[←HP.o];exact(IG (c:={c with state:=4,at_:=k}) HKL.o HSO.o HCT.o (fun h=>h ((HCV.o.trans hq).trans HE2.o.symm))).symm)
     subst hq;go_wp2;go_quiet (fail);go_wp2;go_quiet ((go_at_call 411;exact Cd (HB.o _)));go_wp2;go_quiet (fail);go_wp2;refine⟨⟨k+1,f',by omega,by omega,HP2.o,HA.o _ k (HX.o.drewN _)⟩,?_⟩
     have h9:=fun q=>(HC.o _ _ (HA.o _ k (HX.o.drewN q))).1
     rw[h9,c12];simp[intOf];omega
    ·have d:¬(vv:Int)=(v1:Int):=by omega
     have HP2:Hid (PCo.stop {c with state:=4,at_:=k} 5 0 (-1)=r):=h_ (by rw[←HP.o];exact(KC (c:={c with state:=4,at_:=k}) HKL.o HSO.o HCT.o (fun h=>hq (HCV.o.symm.trans (h.trans HE2.o)))).symm)
     go_wp2;go_quiet (fail);go_wp2;go_quiet ((go_at_call 411;exact Cd (HB.o _)));go_wp2;go_quiet (fail);go_wp2_with (go_at_call 409;refine(HFS.o _ k (by repeat' (first|(with_reducible refine Sat.drewN ?_ _)|exact HX.o))).mono ?_;rintro e w2 ⟨rfl,hs⟩;have HY:=h_ hs)
     go_end0;exact HD.o _ _ HP2.o (Bz _ _ _ _ _) HY.o
  ·have HP2:Hid (PCo.begin {c with state:=4,at_:=k}=r):=h_ (by rw[←HP.o];exact(KA (c:={c with state:=4,at_:=k}) (by show ¬k<c.seen.length;rw[HN.o];exact hlt)).symm)
   go_wp2;go_quiet (fail);go_wp2_with (go_at_call 401;refine(HFB.o _ k (HX.o.drewN _)).mono ?_;rintro e w2 ⟨rfl,hs⟩;have HY:=h_ hs);go_end0;exact HD.o _ _ HP2.o (DF _ _) HY.o
section
variable (ω w : World) (F : HP)
theorem JC (c:PCo)(D:CoD)(l:PLk):coRows (c.heldBy l) D=coRows c D:=by
 unfold PCo.heldBy;simp only;split
 ·rfl
 ·rw[Bz];rfl
theorem Iw (ω:World)(F:HP)(b:Nat)(c:PCo)(D:CoD)(fin err:Nat)(by_:Int)(w1:World)(h:Sat ω w1 (coB b c D*(coRows c D*F))):
  Calls prog 409 #[.pointer b,fin,err,by_] w1 (TakePost ω F b (c.stop fin err by_)) :=
 (Gw ω w1 _ b c D h fin err by_).mono fun e w' h1=>⟨h1.1,Sat.coTo (D:=D) (by rw[Bz];exact h1.2)⟩
theorem Qd (ω:World)(F:HP)(b:Nat)(c:PCo)(D:CoD)(l:PLk)(w1:World)(h:Sat ω w1 (coB b c D*(coRows c D*F))):
  Calls prog 408 #[.pointer b,lkA l] w1 (TakePost ω F b (c.heldBy l)) :=
 (Lw ω w1 _ b c D h l).mono fun e w' h1=>⟨h1.1,Sat.coTo (D:=D) (by rw[JC];exact h1.2)⟩
theorem Nv (ω:World)(F:HP)(b:Nat)(c:PCo)(D:CoD)(w1:World)(h:Sat ω w1 (coB b c D*(coRows c D*F))):
  Calls prog 401 #[.pointer b] w1 (TakePost ω F b c.begin) :=
 (JB ω w1 _ b c D h).mono fun e w' h1=>⟨h1.1,Sat.coTo (D:=D) (by rw[DF];exact h1.2)⟩
theorem TakePost.junk {ω w:World}{F:HP}{b:Nat}{c:PCo}{o:Obj}(h:TakePost ω F b c (.returned (.tuple #[])) w):TakePost ω F b c (.returned (.tuple #[])) (w.alloc o):=⟨rfl,h.2.junk _⟩
theorem Nu (b:Nat)(c:PCo)(D:CoD)(h:Sat ω w (coB b c D*(coRows c D*F)))(hs:c.small)(hp:0<c.stripes.length)(hso:c.stripes.Pairwise (· < ·))(hfu:c.was.length=c.stripes.length)(hlt:c.at_<c.seen.length)(l:PLk):
  Calls prog 404 #[.pointer b,lkA l] w (TakePost ω F b (c.proved l)):=by
 obtain⟨xv,xh,xo⟩:=l;have HE:Hid (c.proved ⟨xv,xh,xo⟩=if xh then c.heldBy ⟨xv,xh,xo⟩ else if xv≠(c.seen.getD c.at_ (0,0)).2 then c.stop 5 0 (-1) else {c with at_:=c.at_+1}.prove):=rfl
 rw[HE.o];have lt:=h.blk.lt;have lt1:b<w.heap.size+1:=by omega
 have H:=h_ h;have c7:=h.blk.c 7;have c12:=h.blk.c 12;have fz:=h.blk.frozen;have g1:=hs.seen;obtain⟨gs,hs1,hs2,hs3⟩:=h.right.coSeen hlt;have s4:w.cell? (κ gs (c.at_*2+1))=some (.int .u64 ((c.seen.getD c.at_ (0,0)).2:Int)):=hs3 1 (by omega)
 have hs2':gs<w.heap.size+1:=by omega
 rw[hs1] at c7;have HH:Hid (∀w1,Sat ω w1 (coB b c D*(coRows c D*F))→Calls prog 408 #[.pointer b,.agg #[υ xv,.bool xh,xo]] w1 (TakePost ω F b (c.heldBy ⟨xv,xh,xo⟩))):=h_ (fun w1 h1=>Qd ω F b c D ⟨xv,xh,xo⟩ w1 h1)
 have HST:Hid (∀w1,Sat ω w1 (coB b c D*(coRows c D*F))→Calls prog 409 #[.pointer b,ι 5,ι 0,ι (-1)] w1 (TakePost ω F b (c.stop 5 0 (-1)))):=h_ (fun w1 h1=>Iw ω F b c D 5 0 (-1) w1 h1)
 have HP:Hid (∀w1,Sat ω w1 (coB b {c with at_:=c.at_+1} D*(coRows c D*F))→Calls prog 410 #[.pointer b] w1 (TakePost ω F b {c with at_:=c.at_+1}.prove)):=h_ (fun w1 h1=>Iz ω w1 F b {c with at_:=c.at_+1} D h1 ⟨hs.seen,hs.cells,hs.stripes,hs.was,hs.now⟩ hp hso hfu (by show c.at_+1≤1000;omega))
 have HA:Hid (∀w1,Sat ω w1 (coB b c D*(coRows c D*F))→Sat ω (w1.setCell (κ b 12) (.int .i64 ((c.at_:Int)+1))) (coB b {c with at_:=c.at_+1} D*(coRows c D*F))):=h_ (fun w1 h1=>h1.put 12 _ rfl)
 obtain⟨v1,hv⟩:∃v1,(c.seen.getD c.at_ (0,0)).2=v1:=⟨_,rfl⟩;rw[hv] at s4 ⊢;obtain⟨n,hn⟩:∃n,c.seen.length=n:=⟨_,rfl⟩;rw[hn] at c7 g1 hlt;obtain⟨k,hk⟩:∃k,c.at_=k:=⟨_,rfl⟩;rw[hk] at c12 s4 hlt HA HP;rw[hk];simp only[lkA];cases xh
 ·rw[if_neg (by simp)]
  by_cases hq:xv=v1
  ·subst hq;rw[if_neg (by simp)]
   go_enter func404,ntmps404;go_wp2;go_quiet (fail);go_wp2_with (go_at_call 410;refine(HP.o _ (by first|exact HA.o _ ((H.o.junk _).drewN _)|(repeat' (first|(with_reducible first|refine Sat.drewN ?_ _|refine Sat.drew ?_|refine Sat.junk ?_ _)|exact HA.o _ H.o)))).mono ?_;rintro e w2 ⟨rfl,hs⟩;have HY:=h_ hs)
   go_end0;exact⟨rfl,HY.o⟩
  ·rw[if_pos hq];have d:((xv:Int) != (v1:Int))=true:=by rw[bne_iff_ne];omega
   have d2:(xv != v1)=true:=by simpa using hq
   have d3:¬(xv:Int)=(v1:Int):=by omega
   go_enter func404,ntmps404;go_wp2;go_quiet (fail);go_wp2_with (go_at_call 409;refine(HST.o _ (by repeat' (first|(with_reducible first|refine Sat.drewN ?_ _|refine Sat.drew ?_|refine Sat.junk ?_ _)|exact H.o))).mono ?_;rintro e w2 ⟨rfl,hs⟩;have HY:=h_ hs)
   go_end0;exact⟨rfl,HY.o⟩
 ·rw[if_pos rfl];go_enter func404,ntmps404;go_wp2_with (go_at_call 408;refine(HH.o _ (by repeat' (first|(with_reducible first|refine Sat.drewN ?_ _|refine Sat.drew ?_|refine Sat.junk ?_ _)|exact H.o))).mono ?_;rintro e w2 ⟨rfl,hs⟩;have HY:=h_ hs)
  go_end0;exact⟨rfl,HY.o⟩
theorem Gy (b:Nat)(c:PCo)(D:CoD)(h:Sat ω w (coB b c D*(coRows c D*F)))(a:PAns)(hst:c.state=2)(hw:4611686018427387903≤a.word):
  Calls prog 403 #[.pointer b,ansA a] w (TakePost ω F b (c.raise a)):=by
 have HE:Hid (c.raise a=c.stop 4 7 (-1)):=h_ (by unfold PCo.raise;rw[if_pos ⟨hst,hw⟩])
 rw[HE.o];obtain⟨xw,⟨xv,xh,xo⟩,xd,xe⟩:=a;simp only at *
 have lt:=h.blk.lt;have lt1:b<w.heap.size+1:=by omega
 have H:=h_ h;have fz:=h.blk.frozen;have c11:w.cell? (κ b 11)=some (.int .i64 ((2:Nat):Int)):=hst▸h.blk.cell 11;have HST:Hid (∀w1,Sat ω w1 (coB b c D*(coRows c D*F))→Calls prog 409 #[.pointer b,ι 4,ι 7,ι (-1)] w1 (TakePost ω F b (c.stop 4 7 (-1)))):=h_ (fun w1 h1=>Iw ω F b c D 4 7 (-1) w1 h1)
 simp only[ansA];obtain⟨W,hW⟩:∃W:Int,(xw:Int)=W:=⟨_,rfl⟩;have hw2:4611686018427387903≤W:=by omega
 rw[hW];go_enter func403,ntmps403;go_wp2_with (go_at_call 409;refine(HST.o _ (by repeat' (first|(with_reducible first|refine Sat.drewN ?_ _|refine Sat.drew ?_|refine Sat.junk ?_ _)|exact H.o))).mono ?_;rintro e w2 ⟨rfl,hs⟩;have HY:=h_ hs)
 go_end0;exact⟨rfl,HY.o⟩
theorem Gz (b:Nat)(c:PCo)(D:CoD)(h:Sat ω w (coB b c D*(coRows c D*F)))(a:PAns)(hst:c.state=2)(hw:¬4611686018427387903≤a.word):
  Calls prog 403 #[.pointer b,ansA a] w (TakePost ω F b (c.raise a)):=by
 have HE:Hid (c.raise a={c with now:=a.word,state:=3}):=h_ (by unfold PCo.raise;rw[if_neg (fun h=>hw h.2),if_pos hst])
 rw[HE.o];obtain⟨xw,⟨xv,xh,xo⟩,xd,xe⟩:=a;simp only at *
 have lt:=h.blk.lt;have lt1:b<w.heap.size+1:=by omega
 have H:=h_ h;have fz:=h.blk.frozen;have c11:w.cell? (κ b 11)=some (.int .i64 ((2:Nat):Int)):=hst▸h.blk.cell 11;have c16:=h.blk.c 16;simp only[ansA];obtain⟨W,hW⟩:∃W:Int,(xw:Int)=W:=⟨_,rfl⟩;have hw2:¬4611686018427387903≤W:=by omega
 have HF:Hid (∀w1,Sat ω w1 (coB b c D*(coRows c D*F))→TakePost ω F b {c with now:=xw,state:=3} (.returned (.tuple #[])) ((w1.setCell (κ b 16) (υ W)).setCell (κ b 11) (ι 3))):=h_ (fun w1 h1=>TakePost.of (D:=D) (by rw[←hW];exact(h1.set 16 _).put 11 _ rfl))
 rw[hW];go_enter func403,ntmps403;go_wp2;go_end0;repeat' (first|(with_reducible refine TakePost.junk ?_)|exact HF.o _ H.o|exact HF.o _ (H.o.junk _))
theorem Fb (b:Nat)(c:PCo)(D:CoD)(h:Sat ω w (coB b c D*(coRows c D*F)))(a:PAns)(hst:c.state=3)(hd:a.done=false):
  Calls prog 403 #[.pointer b,ansA a] w (TakePost ω F b (c.raise a)):=by
 have HE:Hid (c.raise a={c with state:=2}):=h_ (by unfold PCo.raise;rw[if_neg (by rw[hst];simp),if_neg (by rw[hst];simp),if_pos hd])
 rw[HE.o];obtain⟨xw,⟨xv,xh,xo⟩,xd,xe⟩:=a;simp only at *
 have lt:=h.blk.lt;have lt1:b<w.heap.size+1:=by omega
 have H:=h_ h;have fz:=h.blk.frozen;have c11:w.cell? (κ b 11)=some (.int .i64 ((3:Nat):Int)):=hst▸h.blk.cell 11;have HF:Hid (∀w1,Sat ω w1 (coB b c D*(coRows c D*F))→TakePost ω F b {c with state:=2} (.returned (.tuple #[])) (w1.setCell (κ b 11) (ι 2))):=h_ (fun w1 h1=>TakePost.of (D:=D) (h1.put 11 _ rfl))
 subst hd;simp only[ansA];go_enter func403,ntmps403;go_wp2;go_end0;repeat' (first|(with_reducible refine TakePost.junk ?_)|exact HF.o _ H.o|exact HF.o _ (H.o.junk _))
theorem Gx (b:Nat)(c:PCo)(D:CoD)(h:Sat ω w (coB b c D*(coRows c D*F)))(a:PAns)(hs:c.small)(hp:0<c.stripes.length)(hso:c.stripes.Pairwise (· < ·))(hfu:c.was.length=c.stripes.length)(hat:c.at_≤1000)(hst:c.state=3)(hd:a.done=true):
  Calls prog 403 #[.pointer b,ansA a] w (TakePost ω F b (c.raise a)):=by
 have HE:Hid (c.raise a=if c.now=c.stamp then c.begin else c.prove):=h_ (by unfold PCo.raise;rw[if_neg (by rw[hst];simp),if_neg (by rw[hst];simp),if_neg (by rw[hd];simp)])
 rw[HE.o];obtain⟨xw,⟨xv,xh,xo⟩,xd,xe⟩:=a;simp only at *
 have lt:=h.blk.lt;have lt1:b<w.heap.size+1:=by omega
 have H:=h_ h;have fz:=h.blk.frozen;have c11:w.cell? (κ b 11)=some (.int .i64 ((3:Nat):Int)):=hst▸h.blk.cell 11;have c16:=h.blk.c 16;have c6:=h.blk.c 6;have HB:Hid (∀w1,Sat ω w1 (coB b c D*(coRows c D*F))→Calls prog 401 #[.pointer b] w1 (TakePost ω F b c.begin)):=h_ (fun w1 h1=>Nv ω F b c D w1 h1)
 have HP:Hid (∀w1,Sat ω w1 (coB b c D*(coRows c D*F))→Calls prog 410 #[.pointer b] w1 (TakePost ω F b c.prove)):=h_ (fun w1 h1=>Iz ω w1 F b c D h1 hs hp hso hfu hat)
 subst hd;simp only[ansA];by_cases hq:c.now=c.stamp
 ·rw[if_pos hq];rw[hq] at c16;go_enter func403,ntmps403;go_wp2;go_quiet (fail);go_wp2_with (go_at_call 401;refine(HB.o _ (by repeat' (first|(with_reducible first|refine Sat.drewN ?_ _|refine Sat.drew ?_|refine Sat.junk ?_ _)|exact H.o))).mono ?_;rintro e w2 ⟨rfl,hs⟩;have HY:=h_ hs)
  go_end0;exact⟨rfl,HY.o⟩
 ·rw[if_neg hq];have d:((c.now:Int)==(c.stamp:Int))=false:=by rw[beq_eq_false_iff_ne];omega
  have d2:(c.now==c.stamp)=false:=by simpa using hq
  have d3:¬(c.now:Int)=(c.stamp:Int):=by omega
  go_enter func403,ntmps403;go_wp2;go_quiet (fail);go_wp2_with (go_at_call 410;refine(HP.o _ (by repeat' (first|(with_reducible first|refine Sat.drewN ?_ _|refine Sat.drew ?_|refine Sat.junk ?_ _)|exact H.o))).mono ?_;rintro e w2 ⟨rfl,hs⟩;have HY:=h_ hs)
  go_end0;exact⟨rfl,HY.o⟩
end
end Go.Proofs.YtfodmgaliclhfaaGreatDoor
