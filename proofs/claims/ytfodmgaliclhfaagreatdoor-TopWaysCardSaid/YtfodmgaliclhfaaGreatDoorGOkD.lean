/- Lemmas. -/
import Derived.Test.YtfodmgaliclhfaaGreatDoorGClone
import Derived.Lib.ItoaNum
import Derived.Lib.Join
import Derived.Test.YtfodmgaliclhfaaGreatDoorGTail
namespace Go.Proofs.YtfodmgaliclhfaaGreatDoor
set_option linter.unusedVariables false
set_option linter.unusedSimpArgs false
set_option maxRecDepth 100000
set_option maxHeartbeats 8000000
open Go.RowKit Go.Proofs.Tryz Iq
def seV (x:Nat×Nat):List Value:=[.int .i64 x.1,.int .u64 x.2]
def vS (l:List (Nat×Nat)):List Value:=l.flatMap seV
theorem CZ (l:List (Nat×Nat)):∀u∈vS l,u.oneCell'=true:=by
 intro u hu;obtain⟨x,_,hx⟩:=List.mem_flatMap.1 hu;simp[seV] at hx;rcases hx with rfl|rfl<;>rfl
theorem Sat.rowAt {ω w:World}{F:HP}{α:Type}{e:TypeId}{size c:Nat}{A:Option Addr}{f:α→List Value}{l:List α}(h:Sat ω w (row e size (.slice A l.length c) l.length (l.flatMap f)*F))(hf:∀x,(f x).length=size)(d:α){i:Nat}(hi:i<l.length):
  ∃g,A=some ⟨g,0,none⟩∧g<w.heap.size∧∀j,j<size→w.cell? (κ g (i*size+j))=(f (l.getD i d))[j]?:=by
 rcases h.cases with⟨h1,h2,_⟩|⟨g,cap,cur,h2,h3,h4,h5,h6,h7,h8⟩
 ·omega
 ·injection h2 with h2 _ _
  refine⟨g,h2,h8.blk.lt,fun j hj=>?_⟩
  rw[h8.blk.cell,←CL f size hf d l i j hi hj,←h6,List.getElem?_take,if_pos ?_]
  ·simp
  ·calc i*size+j<i*size+size:=by omega
    _=(i+1)*size:=by rw[Nat.succ_mul]
    _≤l.length*size:=Nat.mul_le_mul_right _ hi
def exR (x:PEx)(A:Option Addr)(c:Nat):List Value:=[.slice A x.seen.length c,.bool x.loaded,.int .i64 x.at_,.int .u64 x.stamp]
def exC (x:PEx)(A:Option Addr)(c:Nat):Array Value:=ptC x.rule (exR x A c)
def extHA (b:Nat)(x:PEx)(A:Option Addr)(c:Nat):HP:=bk b 285 (exC x A c)*row 148 2 (.slice A x.seen.length c) x.seen.length (vS x.seen)
def extH (b:Nat)(x:PEx):HP:=ex fun A=>ex fun c=>extHA b x A c
theorem Lr {ω w:World}{F:HP}{b:Nat}{x:PEx}{A:Option Addr}{c:Nat}(h:Sat ω w (extHA b x A c*F)):Sat ω w (extH b x*F):=Sat.to_ex A (h.impL fun y hy=>⟨c,hy⟩)
theorem CM {ω w:World}{F:HP}{b:Nat}{x:PEx}(h:Sat ω w (extH b x*F)):∃A c,Sat ω w (extHA b x A c*F):=by
 obtain⟨A,h⟩:=h.of_ex;obtain⟨c,h⟩:=h.of_ex;exact⟨A,c,h⟩
theorem UM (ω w:World)(F:HP)(me spins:Nat)(seen:List (Nat×Nat))(A:Option Addr)(c:Nat)(hn:seen.length≤1000)(h:Sat ω w (row 148 2 (.slice A seen.length c) seen.length (vS seen)*F)):
  Calls prog 160 #[me,spins,.slice A seen.length c] w (RetP ω (row 148 2 (.slice A seen.length c) seen.length (vS seen)*F) fun b=>extH b (PEx.new me spins seen)):=by
 have H:=h_ h;obtain⟨p,hp⟩:∃p,PPat.new me spins=p:=⟨_,rfl⟩;have HP:Hid (∀w1,Calls prog 162 #[me,spins] w1 fun e w'=>e=.returned (ptA p)∧Only Nob w1 w'):=h_ (fun w1=>hp▸GZ w1 me spins)
 have HC:Hid (∀w1,Only Nob w w1→Calls prog 143 #[.slice A seen.length c] w1 (RetR ω (row 148 2 (.slice A seen.length c) seen.length (vS seen)*F) 148 2 seen.length (vS seen))):=h_ (fun w1 ho=>DV ω w1 F A seen.length c (vS seen) (h.nob ho) (by omega) (CZ _))
 have HE:Hid (∀A2 c2,exC (PEx.new me spins seen) A2 c2=ptC p [.slice A2 seen.length c2,.bool false,.int .i64 0,.int .u64 0]):=h_ (fun A2 c2=>by rw[←hp];rfl)
 have HL:Hid ((PEx.new me spins seen).seen=seen):=rfl;obtain⟨pm,ps,pf,pb,pe⟩:=p;simp only[ptA] at HP;generalize PEx.new me spins seen=X at *
 go_enter func160,ntmps160;go_wp2_with (first
  |(go_at_call 162;refine(HP.o _).mono ?_;rintro e w1 ⟨rfl,ho⟩;have HO:=h_ ho)
  |(go_at_call 143;refine(HC.o _ HO.o).mono ?_;rintro e w2 ⟨A2,c2,rfl,hs⟩;have HS:=h_ hs))
 go_ret;refine⟨_,rfl,Lr (A:=A2) (c:=c2) ?_⟩;unfold extHA;rw[HE.o,HL.o];exact(HS.o.bkNew rfl).assoc'
theorem Se (ω w:World)(F:HP)(b:Nat)(x:PEx)(h:Sat ω w (extH b x*F))(hn:x.seen.length≤1000)(hok:x.ok):
  Calls prog 396 #[.pointer b] w fun e w'=>e=.returned (.tuple #[opA x.next.1,.bool x.next.2])∧Only Nob w w':=by
 obtain⟨A,c,h⟩:=CM h;obtain⟨⟨me,spins,fin,by_,err⟩,seen,loaded,at_,stamp⟩:=x;have hb:=h.assoc.blk;have lt:=hb.lt;have c2:=hb.c 2;have c5:=hb.c 5;have c6:=hb.c 6;have c7:=hb.c 7;have HE:Hid (PEx.next ⟨⟨me,spins,fin,by_,err⟩,seen,loaded,at_,stamp⟩=if fin≠0 then(POp.zero,false) else if loaded then(POp.at' 3 (seen.getD at_ (0,0)).1,true) else(POp.at' 6 0,true)):=rfl
 rw[HE.o];simp only at hn;by_cases h0:fin=0
 ·subst h0;rw[if_neg (by simp)]
  cases loaded
  ·clear h hb HE hok;rw[if_neg (by simp)]
   go_enter func396,ntmps396;go_wp2;refine bodyPost_ret (v:=.tuple #[opA (POp.at' 6 0),.bool true]) (by simp[results,results396,go_sem,opA,POp.at',POp.zero,PLk.zero]) rfl ⟨rfl,?_⟩
   repeat' (first|(with_reducible first|refine Only.setCell ?_ ?_ _|refine Only.alloc ?_ _|refine Only.drewN ?_ _|refine Only.drew ?_|exact Only.refl _ _)|(right;simp;done)|(right;simp;omega))
  ·have hlt:at_<seen.length:=hok rfl rfl;obtain⟨g,rfl,hg,hc⟩:=(h.assoc.right.perm (Eq.refl _)).rowAt (l:=seen) (f:=seV) (fun _=>rfl) (0,0) hlt
   have d0:w.cell? (κ g (at_*2))=some (.int .i64 ((seen.getD at_ (0,0)).1:Int)):=hc 0 (by omega)
   rw[if_pos rfl];generalize (seen.getD at_ (0,0)).1=s at *
   generalize seen.length=n at *
   go_enter func396,ntmps396;go_wp2;refine rT 12 ?_;simp only[sD,sE,sF,sG];repeat still_step
   refine wpStill_nil ?_;go_wp2;refine bodyPost_ret (v:=.tuple #[opA (POp.at' 3 s),.bool true]) (by simp[results,results396,go_sem,opA,POp.at',POp.zero,PLk.zero]) rfl ⟨rfl,?_⟩
   repeat' (first|(with_reducible first|refine Only.setCell ?_ ?_ _|refine Only.alloc ?_ _|refine Only.drewN ?_ _|refine Only.drew ?_|exact Only.refl _ _)|(right;simp;done)|(right;simp;omega))
 ·rw[if_pos h0];have d:((fin:Int) != 0)=true:=by simpa using h0
  go_enter func396,ntmps396;go_wp2;refine bodyPost_ret (v:=.tuple #[opA POp.zero,.bool false]) (by simp[results,results396,go_sem,opA,POp.zero,PLk.zero]) rfl ⟨rfl,?_⟩
  repeat' (first|(with_reducible first|refine Only.setCell ?_ ?_ _|refine Only.alloc ?_ _|refine Only.drewN ?_ _|refine Only.drew ?_|exact Only.refl _ _)|(right;simp;done)|(right;simp;omega))
def exK (r:PPat)(A:Option Addr)(n c:Nat)(loaded:Bool)(at_ stamp:Nat):Array Value:=ptC r [.slice A n c,.bool loaded,.int .i64 at_,.int .u64 stamp]
theorem Sd (ω w:World)(F:HP)(b:Nat)(x:PEx)(h:Sat ω w (extH b x*F))(hn:x.seen.length≤1000)(hok:x.ok)(hat:x.at_≤1000)(a:PAns):
  Calls prog 397 #[.pointer b,ansA a] w (Rets ω F (.tuple #[]) (extH b (x.tell a))):=by
 obtain⟨A,c,h⟩:=CM h;obtain⟨rule,seen,loaded,at_,stamp⟩:=x;obtain⟨xw,⟨xv,xh,xo⟩,xd,xe⟩:=a;simp only at hn hat;obtain⟨n,hnl⟩:∃n,seen.length=n:=⟨_,rfl⟩;obtain⟨R,hR⟩:∃R,R=row 148 2 (.slice A n c) n (vS seen)*F:=⟨_,rfl⟩;have h0:Sat ω w (bk b 285 (exK rule A n c loaded at_ stamp)*R):=by
  rw[hR,←hnl];exact h.assoc
 have lt:=h0.blk.lt;have HBX:Hid (Sat ω (w.alloc (.cells #[υ xw,υ xv,.bool xh,xo,.bool xd,xe] 100)) (bk b 285 (exK rule A n c loaded at_ stamp)*(bk w.heap.size 100 #[υ xw,υ xv,.bool xh,xo,.bool xd,xe]*R))):=h_ (h0.new _ _).swap;have HW:Hid (∀w1 F1,Sat ω w1 (bk b 285 (exK rule A n c loaded at_ stamp)*F1)→Calls prog 391 #[.pointer b,.agg #[υ xw,υ xv,.bool xh,xo,.bool xd,xe]] w1 (Rets ω F1 (.bool (decide ((rule.hear ⟨xw,⟨xv,xh,xo⟩,xd,xe⟩).fin≠0))) (bk b 285 (exK (rule.hear ⟨xw,⟨xv,xh,xo⟩,xd,xe⟩) A n c loaded at_ stamp)))):=h_ (fun w1 F1 h1=>Bs ω w1 F1 b 285 rule _ h1 ⟨xw,⟨xv,xh,xo⟩,xd,xe⟩)
 have HS:Hid (∀w1 ld at2 st2 (fin err:Nat) (by_:Int),Sat ω w1 (bk b 285 (exK rule A n c ld at2 st2)*R)→Calls prog 392 #[.pointer b,fin,err,by_] w1 (Rets ω R (.tuple #[]) (bk b 285 (exK (rule.stop fin err by_) A n c ld at2 st2)))):=h_ (fun w1 ld at2 st2 fin err by_ h1=>BJ ω w1 R b 285 rule _ h1 fin err by_)
 have HZ:Hid (∀w1 r ld at2 st2,Sat ω w1 (bk b 285 (exK r A n c ld at2 st2)*R)→Sat ω w1 (extH b ⟨r,seen,ld,at2,st2⟩*F)):=h_ (fun w1 r ld at2 st2 h1=>by
  rw[hR,←hnl] at h1;exact Lr (A:=A) (c:=c) h1.assoc')
 have HRW:Hid (loaded=true→rule.fin=0→∀w1,Sat ω w1 (bk b 285 (exK rule A n c loaded at_ stamp)*R)→at_<n∧∃g,A=some ⟨g,0,none⟩∧g<w1.heap.size∧w1.cell? (κ g (at_*2+1))=some (.int .u64 ((seen.getD at_ (0,0)).2:Int))):=h_ (fun hl hf w1 h1=>by
  rw[hR,←hnl] at h1;have hlt:at_<seen.length:=hok hf hl;obtain⟨g,h2,h3,h4⟩:=h1.right.rowAt (l:=seen) (f:=seV) (fun _=>rfl) (0,0) hlt
  exact⟨hnl▸hlt,g,h2,h3,h4 1 (by omega)⟩)
 have HLen:=h_ hnl;have HE:Hid (PEx.tell ⟨rule,seen,loaded,at_,stamp⟩ ⟨xw,⟨xv,xh,xo⟩,xd,xe⟩=(let r:=rule.hear ⟨xw,⟨xv,xh,xo⟩,xd,xe⟩;if r.fin≠0 then⟨r,seen,loaded,at_,stamp⟩ else if loaded=false then PEx.over ⟨rule,seen,true,at_,xw⟩ else if xh then(let r:=rule.waits ⟨xv,xh,xo⟩;if r.1 then⟨r.2,seen,loaded,at_,stamp⟩ else⟨r.2.stop 5 0 xo,seen,loaded,at_,stamp⟩) else if xv≠(seen.getD at_ (0,0)).2 then⟨rule.stop 5 0 (-1),seen,loaded,at_,stamp⟩ else PEx.over ⟨rule,seen,loaded,at_+1,stamp⟩)):=rfl
 rw[HE.o];rw[hnl] at hn;clear h h0 hR hnl HE hok;have hq:(rule.hear ⟨xw,⟨xv,xh,xo⟩,xd,xe⟩).fin=0→rule.hear ⟨xw,⟨xv,xh,xo⟩,xd,xe⟩=rule:=by
  unfold PPat.hear;split<;>simp[PPat.stop]
 generalize rule.hear ⟨xw,⟨xv,xh,xo⟩,xd,xe⟩=r at *
 simp only;simp only[ansA];by_cases h0:r.fin=0
 ·rw[if_neg (by simpa using h0)]
  rw[hq h0] at HW h0;clear hq;rw[h0] at HW;have HR0:=h_ h0;clear h0;cases loaded
  ·rw[if_pos rfl];have HL:Hid (∀w1,Sat ω w1 (bk b 285 (exK rule A n c false at_ stamp)*R)→Sat ω ((w1.setCell (κ b 6) (.bool true)).setCell (κ b 8) (υ xw)) (bk b 285 (exK rule A n c true at_ xw)*R)):=h_ (fun w1 h1=>(h1.set 6 _).put 8 _ rfl)
   by_cases he:at_=n
   ·have HO:Hid (PEx.over ⟨rule,seen,true,at_,xw⟩=⟨rule.stop 2 0 (-1),seen,true,at_,xw⟩):=h_ (by unfold PEx.over;rw[if_pos (by rw[HLen.o];exact he)])
    rw[HO.o];subst he;go_enter func397,ntmps397;go_wp2;refine rT 4 ?_;simp only[sD,sE,sF,sG];repeat still_step
    refine wpStill_nil ?_;go_wp2_with (go_at_call 391;refine(HW.o _ _ HBX.o.drew).mono ?_;rintro e w1 ⟨rfl,hs⟩;have c5:=hs.blk.c 5;have c6:=hs.blk.c 6;have c7:=hs.blk.c 7;have c8:=hs.blk.c 8;have fz:=hs.blk.frozen;have lt2:=hs.blk.lt;have q:=hs.right.blk;obtain⟨q0,q1,q2,q3,q4,q5⟩:=q.six;have qf:=q.frozen;have ql:=q.lt;have HX:=h_ hs.swap.right;have HX2:=h_ hs;clear hs q);go_region;go_wp2;go_quiet (fail);go_wp2_with (go_at_call 392;refine(HS.o _ _ _ _ 2 0 (-1) (by repeat' (first|(with_reducible first|refine Sat.drewN ?_ _|refine Sat.drew ?_)|exact HL.o _ HX.o|exact HL.o _ HX.o.drew))).mono ?_;rintro e w2 ⟨rfl,hs⟩;have HY:=h_ hs;clear hs)
    go_end0;exact⟨rfl,HZ.o _ _ _ _ _ HY.o⟩
   ·have HO:Hid (PEx.over ⟨rule,seen,true,at_,xw⟩=⟨rule,seen,true,at_,xw⟩):=h_ (by unfold PEx.over;rw[if_neg (by rw[HLen.o];exact he)])
    rw[HO.o];have d:((at_:Int)==(n:Int))=false:=by rw[beq_eq_false_iff_ne];omega
    have d2:(at_==n)=false:=by simpa using he
    clear he;go_enter func397,ntmps397;go_wp2;refine rT 4 ?_;simp only[sD,sE,sF,sG];repeat still_step
    refine wpStill_nil ?_;go_wp2_with (go_at_call 391;refine(HW.o _ _ HBX.o.drew).mono ?_;rintro e w1 ⟨rfl,hs⟩;have c5:=hs.blk.c 5;have c6:=hs.blk.c 6;have c7:=hs.blk.c 7;have c8:=hs.blk.c 8;have fz:=hs.blk.frozen;have lt2:=hs.blk.lt;have q:=hs.right.blk;obtain⟨q0,q1,q2,q3,q4,q5⟩:=q.six;have qf:=q.frozen;have ql:=q.lt;have HX:=h_ hs.swap.right;have HX2:=h_ hs;clear hs q);go_region;go_wp2;go_quiet (fail);go_wp2;go_end0;exact⟨rfl,HZ.o _ _ _ _ _ (by repeat' (first|(with_reducible first|refine Sat.drewN ?_ _|refine Sat.drew ?_)|exact HL.o _ HX.o|exact HL.o _ HX.o.drew))⟩
  ·rw[if_neg (by simp)]
   have HRX:=h_ (HRW.o rfl HR0.o);clear HRW;cases xh
   ·rw[if_neg (by simp)]
    generalize hv:(seen.getD at_ (0,0)).2=v at *
    clear hv;by_cases hv:xv=v
    ·subst hv;rw[if_neg (by simp)]
     have HL:Hid (∀w1,Sat ω w1 (bk b 285 (exK rule A n c true at_ stamp)*R)→Sat ω (w1.setCell (κ b 7) (.int .i64 ((at_:Int)+1))) (bk b 285 (exK rule A n c true (at_+1) stamp)*R)):=h_ (fun w1 h1=>h1.put 7 _ rfl)
     by_cases he:at_+1=n
     ·have HO:Hid (PEx.over ⟨rule,seen,true,at_+1,stamp⟩=⟨rule.stop 2 0 (-1),seen,true,at_+1,stamp⟩):=h_ (by unfold PEx.over;rw[if_pos (by rw[HLen.o];exact he)])
      rw[HO.o];subst he;go_enter func397,ntmps397;go_wp2;refine rT 4 ?_;simp only[sD,sE,sF,sG];repeat still_step
      refine wpStill_nil ?_;go_wp2_with (go_at_call 391;refine(HW.o _ _ HBX.o.drew).mono ?_;rintro e w1 ⟨rfl,hs⟩;have c5:=hs.blk.c 5;have c6:=hs.blk.c 6;have c7:=hs.blk.c 7;have c8:=hs.blk.c 8;have fz:=hs.blk.frozen;have lt2:=hs.blk.lt;have q:=hs.right.blk;obtain⟨q0,q1,q2,q3,q4,q5⟩:=q.six;have qf:=q.frozen;have ql:=q.lt;obtain⟨hlt,g,hA,hg,hc⟩:=HRX.o _ hs.swap.right;subst hA;have HX:=h_ hs.swap.right;have HX2:=h_ hs;clear hs q);go_quiet (fail);go_wp2;go_quiet (fail);go_wp2_with (go_at_call 392;refine(HS.o _ _ _ _ 2 0 (-1) (by repeat' (first|(with_reducible first|refine Sat.drewN ?_ _|refine Sat.drew ?_)|exact HL.o _ HX.o|exact HL.o _ (HX.o.drewN _)))).mono ?_;rintro e w2 ⟨rfl,hs⟩;have HY:=h_ hs;clear hs)
      go_end0;exact⟨rfl,HZ.o _ _ _ _ _ HY.o⟩
     ·have HO:Hid (PEx.over ⟨rule,seen,true,at_+1,stamp⟩=⟨rule,seen,true,at_+1,stamp⟩):=h_ (by unfold PEx.over;rw[if_neg (by rw[HLen.o];exact he)])
      rw[HO.o];have d:((at_:Int)+1==(n:Int))=false:=by rw[beq_eq_false_iff_ne];omega
      have d2:(at_+1==n)=false:=by simpa using he
      clear he;go_enter func397,ntmps397;go_wp2;refine rT 4 ?_;simp only[sD,sE,sF,sG];repeat still_step
      refine wpStill_nil ?_;go_wp2_with (go_at_call 391;refine(HW.o _ _ HBX.o.drew).mono ?_;rintro e w1 ⟨rfl,hs⟩;have c5:=hs.blk.c 5;have c6:=hs.blk.c 6;have c7:=hs.blk.c 7;have c8:=hs.blk.c 8;have fz:=hs.blk.frozen;have lt2:=hs.blk.lt;have q:=hs.right.blk;obtain⟨q0,q1,q2,q3,q4,q5⟩:=q.six;have qf:=q.frozen;have ql:=q.lt;obtain⟨hlt,g,hA,hg,hc⟩:=HRX.o _ hs.swap.right;subst hA;have HX:=h_ hs.swap.right;have HX2:=h_ hs;clear hs q);go_quiet (fail);go_wp2;go_quiet (fail);go_wp2;go_end0;exact⟨rfl,HZ.o _ _ _ _ _ (by repeat' (first|(with_reducible first|refine Sat.drewN ?_ _|refine Sat.drew ?_)|exact HL.o _ HX.o|exact HL.o _ (HX.o.drewN _)))⟩
    ·rw[if_pos hv];have d:((xv:Int) != (v:Int))=true:=by rw[bne_iff_ne];omega
     have d2:(xv != v)=true:=by simpa using hv
     clear hv;go_enter func397,ntmps397;go_wp2;refine rT 4 ?_;simp only[sD,sE,sF,sG];repeat still_step
     refine wpStill_nil ?_;go_wp2_with (go_at_call 391;refine(HW.o _ _ HBX.o.drew).mono ?_;rintro e w1 ⟨rfl,hs⟩;have c5:=hs.blk.c 5;have c6:=hs.blk.c 6;have c7:=hs.blk.c 7;have c8:=hs.blk.c 8;have fz:=hs.blk.frozen;have lt2:=hs.blk.lt;have q:=hs.right.blk;obtain⟨q0,q1,q2,q3,q4,q5⟩:=q.six;have qf:=q.frozen;have ql:=q.lt;obtain⟨hlt,g,hA,hg,hc⟩:=HRX.o _ hs.swap.right;subst hA;have HX:=h_ hs.swap.right;have HX2:=h_ hs;clear hs q);go_quiet (fail);go_wp2_with (go_at_call 392;refine(HS.o _ _ _ _ 5 0 (-1) (HX.o.drewN _)).mono ?_;rintro e w2 ⟨rfl,hs⟩;have HY:=h_ hs;clear hs);go_end0;exact⟨rfl,HZ.o _ _ _ _ _ HY.o⟩
   ·rw[if_pos rfl];have HWT:Hid (∀w1 F1,Sat ω w1 (bk b 285 (exK rule A n c true at_ stamp)*F1)→Calls prog 394 #[.pointer b,.agg #[υ xv,.bool true,xo]] w1 (Rets ω F1 (.bool (rule.waits ⟨xv,true,xo⟩).1) (bk b 285 (exK (rule.waits ⟨xv,true,xo⟩).2 A n c true at_ stamp)))):=h_ (fun w1 F1 h1=>DQ ω w1 F1 b 285 rule _ h1 ⟨xv,true,xo⟩)
    generalize rule.waits ⟨xv,true,xo⟩=rr at *
    obtain⟨ok,r2⟩:=rr;simp only at HWT ⊢;cases ok
    ·have HS2:Hid (∀w1,Sat ω w1 (bk b 285 (exK r2 A n c true at_ stamp)*R)→Calls prog 392 #[.pointer b,ι 5,ι 0,xo] w1 (Rets ω R (.tuple #[]) (bk b 285 (exK (r2.stop 5 0 (xo:Int)) A n c true at_ stamp)))):=h_ (fun w1 h1=>BJ ω w1 R b 285 r2 _ h1 5 0 (xo:Int))
     simp only[Bool.false_eq_true,if_false];go_enter func397,ntmps397;go_wp2;refine rT 4 ?_;simp only[sD,sE,sF,sG];repeat still_step
     refine wpStill_nil ?_;go_wp2_with (go_at_call 391;refine(HW.o _ _ HBX.o.drew).mono ?_;rintro e w1 ⟨rfl,hs⟩;have c5:=hs.blk.c 5;have c6:=hs.blk.c 6;have c7:=hs.blk.c 7;have c8:=hs.blk.c 8;have fz:=hs.blk.frozen;have lt2:=hs.blk.lt;have q:=hs.right.blk;obtain⟨q0,q1,q2,q3,q4,q5⟩:=q.six;have qf:=q.frozen;have ql:=q.lt;have HX:=h_ hs.swap.right;have HX2:=h_ hs;clear hs q);refine rT 5 ?_;simp only[sD,sE,sF,sG];repeat still_step
     refine wpStill_nil ?_;go_wp2_with (go_at_call 394;refine(HWT.o _ _ HX2.o.drew).mono ?_;rintro e w2 ⟨rfl,hs⟩;have q:=hs.right.blk;obtain⟨q0,q1,q2,q3,q4,q5⟩:=q.six;have qf:=q.frozen;have ql:=q.lt;have HV:=h_ hs.swap.right;clear hs q);refine rT 6 ?_;simp only[sD,sE,sF,sG];repeat still_step
     refine wpStill_nil ?_;go_wp2_with (go_at_call 392;refine(HS2.o _ HV.o.drew).mono ?_;rintro e w3 ⟨rfl,hs⟩;have HY:=h_ hs;clear hs);go_end0;exact⟨rfl,HZ.o _ _ _ _ _ HY.o⟩
    ·simp only[if_true];go_enter func397,ntmps397;go_wp2;refine rT 4 ?_;simp only[sD,sE,sF,sG];repeat still_step
     refine wpStill_nil ?_;go_wp2_with (go_at_call 391;refine(HW.o _ _ HBX.o.drew).mono ?_;rintro e w1 ⟨rfl,hs⟩;have c5:=hs.blk.c 5;have c6:=hs.blk.c 6;have c7:=hs.blk.c 7;have c8:=hs.blk.c 8;have fz:=hs.blk.frozen;have lt2:=hs.blk.lt;have q:=hs.right.blk;obtain⟨q0,q1,q2,q3,q4,q5⟩:=q.six;have qf:=q.frozen;have ql:=q.lt;have HX:=h_ hs.swap.right;have HX2:=h_ hs;clear hs q);refine rT 5 ?_;simp only[sD,sE,sF,sG];repeat still_step
     refine wpStill_nil ?_;go_wp2_with (go_at_call 394;refine(HWT.o _ _ HX2.o.drew).mono ?_;rintro e w2 ⟨rfl,hs⟩;have HV:=h_ hs.swap.right;clear hs);go_end0;exact⟨rfl,HZ.o _ _ _ _ _ HV.o⟩
 ·rw[if_pos h0];rw[decide_eq_true h0] at HW;clear hq h0;go_enter func397,ntmps397;go_wp2;refine rT 4 ?_;simp only[sD,sE,sF,sG];repeat still_step
  refine wpStill_nil ?_;go_wp2_with (go_at_call 391;refine(HW.o _ _ HBX.o.drew).mono ?_;rintro e w1 ⟨rfl,hs⟩;have c5:=hs.blk.c 5;have c6:=hs.blk.c 6;have c7:=hs.blk.c 7;have c8:=hs.blk.c 8;have fz:=hs.blk.frozen;have lt2:=hs.blk.lt;have q:=hs.right.blk;obtain⟨q0,q1,q2,q3,q4,q5⟩:=q.six;have qf:=q.frozen;have ql:=q.lt;have HX:=h_ hs.swap.right;have HX2:=h_ hs;clear hs q);go_end0;exact⟨rfl,HZ.o _ _ _ _ _ HX.o⟩
structure CoD where
 sA:Option Addr
 sC:Nat
 cA:Option Addr
 cC:Nat
 tA:Option Addr
 tC:Nat
 wA:Option Addr
 wC:Nat
def coC (c:PCo)(D:CoD):Array Value:=ptC c.rule [.int .i64 c.me,.int .u64 c.stamp,.slice D.sA c.seen.length D.sC,.slice D.cA c.cells.length D.cC,.slice D.tA c.stripes.length D.tC,.slice D.wA c.was.length D.wC,.int .i64 c.state,.int .i64 c.at_,.int .u64 c.lock.ver,.bool c.lock.held,.int .i64 c.lock.own,.int .u64 c.now,.bool c.writing,.int .i64 c.fin,.int .i64 c.by_,.int .i64 c.err]
def coB (b:Nat)(c:PCo)(D:CoD):HP:=bk b 258 (coC c D)
theorem Lu (ω w:World)(R:HP)(b:Nat)(c:PCo)(D:CoD)(h:Sat ω w (coB b c D*R))(fin err:Nat)(by_:Int):
  Calls prog 392 #[.pointer b,fin,err,by_] w (Rets ω R (.tuple #[]) (coB b {c with rule:=c.rule.stop fin err by_} D)):=BJ ω w R b _ c.rule _ h fin err by_
theorem JA (ω w:World)(R:HP)(b:Nat)(c:PCo)(D:CoD)(h:Sat ω w (coB b c D*R)):
  Calls prog 407 #[.pointer b] w (Rets ω R (.tuple #[]) (coB b c.leave D)):=by
 have HE:Hid (c.leave=if c.at_=c.was.length then {c with rule:=c.rule.stop c.fin c.err c.by_} else c):=rfl
 rw[HE.o];have c12:=h.blk.c 12;have c10:=h.blk.c 10;have c18:=h.blk.c 18;have c19:=h.blk.c 19;have c20:=h.blk.c 20;have lt:=h.blk.lt;have H:=h_ h;have HS:=h_ (fun w1 (h1:Sat ω w1 (coB b c D*R))=>Lu ω w1 R b c D h1 c.fin c.err c.by_)
 generalize c.was.length=n at *
 by_cases h0:c.at_=n
 ·rw[if_pos h0];rw[h0] at c12;go_enter func407,ntmps407;go_wp2;go_quiet (fail);go_wp2;refine rT 15 ?_;simp only[sD,sE,sF,sG];repeat still_step
  refine wpStill_nil ?_;go_wp2_with (go_at_call 392;refine(HS.o _ (by repeat' (first|(with_reducible first|refine Sat.drewN ?_ _|refine Sat.drew ?_|refine Sat.junk ?_ _)|exact H.o))).mono ?_;rintro e w2 ⟨rfl,hs⟩;have HY:=h_ hs)
  go_end0;exact⟨rfl,HY.o⟩
 ·rw[if_neg h0];have d:((c.at_:Int)==(n:Int))=false:=by rw[beq_eq_false_iff_ne];omega
  have d2:(c.at_==n)=false:=by simpa using h0
  go_enter func407,ntmps407;go_wp2;go_quiet (fail);go_wp2;go_end0;exact⟨rfl,H.o.drewN _⟩
theorem Lx (ω w:World)(R:HP)(b:Nat)(c:PCo)(D:CoD)(h:Sat ω w (coB b c D*R)):
  Calls prog 406 #[.pointer b] w (Rets ω R (.tuple #[]) (coB b c.give D)):=by
 have HE:Hid (c.give=if c.at_=c.stripes.length then {c with rule:=c.rule.stop 2 0 (-1)} else c):=rfl
 rw[HE.o];have c12:=h.blk.c 12;have c9:=h.blk.c 9;have lt:=h.blk.lt;have H:=h_ h;have HS:=h_ (fun w1 (h1:Sat ω w1 (coB b c D*R))=>Lu ω w1 R b c D h1 2 0 (-1))
 generalize c.stripes.length=n at *
 by_cases h0:c.at_=n
 ·rw[if_pos h0];rw[h0] at c12;go_enter func406,ntmps406;go_wp2;go_quiet (fail);go_wp2_with (go_at_call 392;refine(HS.o _ (by repeat' (first|(with_reducible first|refine Sat.drewN ?_ _|refine Sat.drew ?_|refine Sat.junk ?_ _)|exact H.o))).mono ?_;rintro e w2 ⟨rfl,hs⟩;have HY:=h_ hs)
  go_end0;exact⟨rfl,HY.o⟩
 ·rw[if_neg h0];have d:((c.at_:Int)==(n:Int))=false:=by rw[beq_eq_false_iff_ne];omega
  have d2:(c.at_==n)=false:=by simpa using h0
  go_enter func406,ntmps406;go_wp2;go_quiet (fail);go_wp2;go_end0;exact⟨rfl,H.o.drewN _⟩
theorem It (ω w:World)(R:HP)(b:Nat)(c:PCo)(D:CoD)(h:Sat ω w (coB b c D*R)):
  Calls prog 405 #[.pointer b] w (Rets ω R (.tuple #[]) (coB b c.write D)):=by
 have HE:Hid (c.write=if c.at_=c.cells.length then {c with at_:=0,state:=6}.give else c):=rfl
 rw[HE.o];have c12:=h.blk.c 12;have c8:=h.blk.c 8;have c11:=h.blk.c 11;have fz:=h.blk.frozen;have lt:=h.blk.lt;have H:=h_ h;have HL:Hid (∀w1,Sat ω w1 (coB b c D*R)→Sat ω ((w1.setCell (κ b 12) (ι 0)).setCell (κ b 11) (ι 6)) (coB b {c with at_:=0,state:=6} D*R)):=h_ (fun w1 h1=>(h1.set 12 _).put 11 _ rfl)
 have HS:=h_ (fun w1 (h1:Sat ω w1 (coB b {c with at_:=0,state:=6} D*R))=>Lx ω w1 R b {c with at_:=0,state:=6} D h1)
 generalize c.cells.length=n at *
 by_cases h0:c.at_=n
 ·rw[if_pos h0];rw[h0] at c12;go_enter func405,ntmps405;go_wp2;go_quiet (fail);go_wp2_with (go_at_call 406;refine(HS.o _ (by repeat' (first|(with_reducible refine Sat.drewN ?_ _)|exact HL.o _ (H.o.drewN _)))).mono ?_;rintro e w2 ⟨rfl,hs⟩;have HY:=h_ hs)
  go_end0;exact⟨rfl,HY.o⟩
 ·rw[if_neg h0];have d:((c.at_:Int)==(n:Int))=false:=by rw[beq_eq_false_iff_ne];omega
  have d2:(c.at_==n)=false:=by simpa using h0
  go_enter func405,ntmps405;go_wp2;go_quiet (fail);go_wp2;go_end0;exact⟨rfl,H.o.drewN _⟩
theorem JB (ω w:World)(R:HP)(b:Nat)(c:PCo)(D:CoD)(h:Sat ω w (coB b c D*R)):
  Calls prog 401 #[.pointer b] w (Rets ω R (.tuple #[]) (coB b c.begin D)):=by
 have c12:=h.blk.c 12;have c11:=h.blk.c 11;have c17:=h.blk.c 17;have fz:=h.blk.frozen;have lt:=h.blk.lt;have H:=h_ h;have HL:Hid (∀w1,Sat ω w1 (coB b c D*R)→Sat ω (((w1.setCell (κ b 17) (.bool true)).setCell (κ b 12) (ι 0)).setCell (κ b 11) (ι 5)) (coB b {c with writing:=true,at_:=0,state:=5} D*R)):=h_ (fun w1 h1=>((h1.set 17 _).set 12 _).put 11 _ rfl)
 have HS:Hid (∀w1,Sat ω w1 (coB b {c with writing:=true,at_:=0,state:=5} D*R)→Calls prog 405 #[.pointer b] w1 (Rets ω R (.tuple #[]) (coB b c.begin D))):=h_ (fun w1 h1=>It ω w1 R b {c with writing:=true,at_:=0,state:=5} D h1)
 go_enter func401,ntmps401;go_wp2_with (go_at_call 405;refine(HS.o _ (HL.o _ H.o)).mono ?_;rintro e w2 ⟨rfl,hs⟩;have HY:=h_ hs);go_end0;exact⟨rfl,HY.o⟩
theorem Gw (ω w:World)(R:HP)(b:Nat)(c:PCo)(D:CoD)(h:Sat ω w (coB b c D*R))(fin err:Nat)(by_:Int):
  Calls prog 409 #[.pointer b,fin,err,by_] w (Rets ω R (.tuple #[]) (coB b (c.stop fin err by_) D)):=by
 have c11:=h.blk.c 11;have c12:=h.blk.c 12;have c18:=h.blk.c 18;have c19:=h.blk.c 19;have c20:=h.blk.c 20;have fz:=h.blk.frozen;have lt:=h.blk.lt;have H:=h_ h;have HL:Hid (∀w1,Sat ω w1 (coB b c D*R)→Sat ω (((((w1.setCell (κ b 18) fin).setCell (κ b 20) err).setCell (κ b 19) by_).setCell (κ b 12) (ι 0)).setCell (κ b 11) (ι 7)) (coB b {c with fin:=fin,err:=err,by_:=by_,at_:=0,state:=7} D*R)):=h_ (fun w1 h1=>((((h1.set 18 _).set 20 _).set 19 _).set 12 _).put 11 _ rfl)
 have HS:Hid (∀w1,Sat ω w1 (coB b {c with fin:=fin,err:=err,by_:=by_,at_:=0,state:=7} D*R)→Calls prog 407 #[.pointer b] w1 (Rets ω R (.tuple #[]) (coB b (c.stop fin err by_) D))):=h_ (fun w1 h1=>JA ω w1 R b {c with fin:=fin,err:=err,by_:=by_,at_:=0,state:=7} D h1)
 go_enter func409,ntmps409;go_wp2_with (go_at_call 407;refine(HS.o _ (HL.o _ H.o)).mono ?_;rintro e w2 ⟨rfl,hs⟩;have HY:=h_ hs);go_end0;exact⟨rfl,HY.o⟩
theorem Lw (ω w:World)(R:HP)(b:Nat)(c:PCo)(D:CoD)(h:Sat ω w (coB b c D*R))(l:PLk):
  Calls prog 408 #[.pointer b,lkA l] w (Rets ω R (.tuple #[]) (coB b (c.heldBy l) D)):=by
 obtain⟨xv,xh,xo⟩:=l;have HE:Hid (c.heldBy ⟨xv,xh,xo⟩=(let r:=c.rule.waits ⟨xv,xh,xo⟩;let c:={c with rule:=r.2};if r.1 then c else c.stop 5 0 xo)):=rfl
 rw[HE.o];have lt:=h.blk.lt;have HBX:Hid (Sat ω (w.alloc (.cells #[υ xv,.bool xh,xo] 93)) (coB b c D*(bk w.heap.size 93 #[υ xv,.bool xh,xo]*R))):=h_ (h.new _ _).swap;have HW:Hid (∀w1 F1,Sat ω w1 (coB b c D*F1)→Calls prog 394 #[.pointer b,.agg #[υ xv,.bool xh,xo]] w1 (Rets ω F1 (.bool (c.rule.waits ⟨xv,xh,xo⟩).1) (coB b {c with rule:=(c.rule.waits ⟨xv,xh,xo⟩).2} D))):=h_ (fun w1 F1 h1=>DQ ω w1 F1 b _ c.rule _ h1 ⟨xv,xh,xo⟩)
 generalize c.rule.waits ⟨xv,xh,xo⟩=rr at *
 obtain⟨ok,r2⟩:=rr;simp only at HW ⊢;have HS:Hid (∀w1,Sat ω w1 (coB b {c with rule:=r2} D*R)→Calls prog 409 #[.pointer b,ι 5,ι 0,xo] w1 (Rets ω R (.tuple #[]) (coB b ({c with rule:=r2}.stop 5 0 xo) D))):=h_ (fun w1 h1=>Gw ω w1 R b {c with rule:=r2} D h1 5 0 xo)
 simp only[lkA];cases ok
 ·simp only[Bool.false_eq_true,if_false];go_enter func408,ntmps408;go_wp2;refine rT 4 ?_;simp only[sD,sE,sF,sG];repeat still_step
  refine wpStill_nil ?_;go_wp2_with (first
   |(go_at_call 394;refine(HW.o _ _ HBX.o.drew).mono ?_;rintro e w1 ⟨rfl,hs⟩;have q:=hs.right.blk;have q0:=q.cell 0;have q1:=q.cell 1;have q2:=q.cell 2;have ql:=q.lt;have HX:=h_ hs.swap.right)
   |(go_at_call 409;refine(HS.o _ HX.o).mono ?_;rintro e w2 ⟨rfl,hs⟩;have HY:=h_ hs))
  go_end0;exact⟨rfl,HY.o⟩
 ·simp only[if_true];go_enter func408,ntmps408;go_wp2;refine rT 4 ?_;simp only[sD,sE,sF,sG];repeat still_step
  refine wpStill_nil ?_;go_wp2_with (go_at_call 394;refine(HW.o _ _ HBX.o.drew).mono ?_;rintro e w1 ⟨rfl,hs⟩;have HX:=h_ hs.swap.right);go_end0;exact⟨rfl,HX.o⟩
theorem Lv (ω w:World)(R:HP)(b:Nat)(c:PCo)(D:CoD)(h:Sat ω w (coB b c D*R)):
  Calls prog 164 #[.pointer b] w (Rets ω R (.tuple #[]) (coB b c.more D)):=by
 have HE:Hid (c.more={c with state:=if c.was.length=c.stripes.length then 2 else 0}):=rfl
 rw[HE.o];have c11:=h.blk.c 11;have c9:=h.blk.c 9;have c10:=h.blk.c 10;have fz:=h.blk.frozen;have lt:=h.blk.lt;have H:=h_ h;have HL0:Hid (∀w1,Sat ω w1 (coB b c D*R)→Sat ω (w1.setCell (κ b 11) (ι 0)) (coB b {c with state:=0} D*R)):=h_ (fun w1 h1=>h1.put 11 _ rfl)
 have HL2:Hid (∀w1,Sat ω w1 (coB b c D*R)→Sat ω (w1.setCell (κ b 11) (ι 2)) (coB b {c with state:=2} D*R)):=h_ (fun w1 h1=>h1.put 11 _ rfl)
 have HB0:Hid (∀w1,Sat ω w1 (coB b {c with state:=0} D*R)→Sat ω (w1.setCell (κ b 11) (ι 2)) (coB b {c with state:=2} D*R)):=h_ (fun w1 h1=>h1.put 11 _ rfl)
 generalize c.was.length=n at *
 generalize c.stripes.length=m at *
 by_cases h0:n=m
 ·rw[if_pos h0];subst h0;go_enter func164,ntmps164;go_wp2;go_quiet (fail);go_wp2;go_end0;exact⟨rfl,HB0.o _ ((HL0.o _ H.o).drewN _)⟩
 ·rw[if_neg h0];have d:((n:Int)==(m:Int))=false:=by rw[beq_eq_false_iff_ne];omega
  have d2:(n==m)=false:=by simpa using h0
  go_enter func164,ntmps164;go_wp2;go_quiet (fail);go_wp2;go_end0;exact⟨rfl,(HL0.o _ H.o).drewN _⟩
def digB (b:UInt8):Bool:=decide (48≤b.toNat)&&decide (b.toNat≤57)
def dv (b:UInt8):Nat:=b.toNat-48
def vstep (n:Nat)(b:UInt8):Nat:=10*n+dv b
def valD (n:Nat)(l:List UInt8):Nat:=l.foldl vstep n
theorem CB (n:Nat)(b:UInt8)(l:List UInt8):valD n (b::l)=valD (10*n+dv b) l:=by
 unfold valD;rw[List.foldl_cons];unfold vstep;exact Eq.refl _
theorem DM (b:UInt8)(l:List UInt8):valD 0 (b::l)=valD (dv b) l:=by
 have h:10*0+dv b=dv b:=by rw[Nat.mul_zero,Nat.zero_add]
 exact(CB 0 b l).trans (congrArg (fun k=>valD k l) h)
def decOf (l:List UInt8):Option Nat :=
 if l≠[]∧l.all digB=true∧¬(l.head?=some 48∧1<l.length) then some (valD 0 l) else none
theorem GQ:∀(l:List UInt8) (n:Nat),n*10 ^ l.length≤valD n l
 | [],n=>by unfold valD;simp
 |b::l,n=>by
  have h:=GQ l (10*n+(b.toNat-48));have e:valD n (b::l)=valD (10*n+dv b) l:=rfl;rw[e,List.length_cons,Nat.pow_succ,Nat.mul_comm (10 ^ l.length) 10,←Nat.mul_assoc];generalize 10 ^ l.length=p at h ⊢;have h2:n*10*p≤(10*n+dv b)*p:=Nat.mul_le_mul_right p (by omega)
  exact Nat.le_trans h2 h
theorem GP (l:List UInt8)(n:Nat):n≤valD n l:=by
 have h:=GQ l n
 have:1≤10 ^ l.length:=Nat.one_le_pow _ _ (by decide)
 exact Nat.le_trans (Nat.le_mul_of_pos_right n this) h
theorem Fh (l:List UInt8)(b:UInt8):∀n,valD n (l++[b])=10*valD n l+dv b:=by
 induction l with
 |nil=>intro n;exact CB n b []
 |cons c l ih=>intro n;rw[List.cons_append,CB,CB];exact ih _
theorem FC (d:Nat)(h:d<10):digB (UInt8.ofNat (48+d))=true∧(UInt8.ofNat (48+d)).toNat=48+d:=by
 have e:(UInt8.ofNat (48+d)).toNat=48+d:=by
  rw[UInt8.toNat_ofNat'];omega
 exact⟨by simp[digB,e];omega,e⟩
theorem AQ {u:Nat}(h:u<10):Go.Lib.decDigits u=[UInt8.ofNat (48+u)]:=by rw[Go.Lib.decDigits,dif_pos h]
theorem Ai {u:Nat}(h:¬u<10):Go.Lib.decDigits u=Go.Lib.decDigits (u / 10)++[UInt8.ofNat (48+u%10)]:=by
 conv=>lhs;rw[Go.Lib.decDigits]
 rw[dif_neg h]
theorem DB (u:Nat):Go.Lib.decDigits u≠[]:=by
 by_cases h:u<10
 ·rw[AQ h];simp
 ·rw[Ai h];simp
theorem FZ (u:Nat):(Go.Lib.decDigits u).all digB=true:=by
 induction u using Nat.strongRecOn with
 |_ u ih =>
  by_cases h:u<10
  ·rw[AQ h];simp only[List.all_cons,List.all_nil,Bool.and_true,(FC u h).1]
  ·rw[Ai h];simp only[List.all_append,List.all_cons,List.all_nil,Bool.and_true,ih (u / 10) (by omega),(FC (u%10) (by omega)).1]
theorem FY (u:Nat):valD 0 (Go.Lib.decDigits u)=u:=by
 induction u using Nat.strongRecOn with
 |_ u ih =>
  by_cases h:u<10
  ·have e:=(FC u h).2;rw[AQ h];generalize UInt8.ofNat (48+u)=b at e;have e3:dv b=u:=by unfold dv;rw[e];omega
   have e2:valD 0 [b]=dv b:=DM b [];rw[e2,e3]
  ·have e:=(FC (u%10) (by omega)).2
   rw[Ai h,Fh,ih (u / 10) (by omega)]
   generalize UInt8.ofNat (48+u%10)=b at e;have e3:dv b=u%10:=by unfold dv;rw[e];omega
   rw[e3];omega
theorem FD (u:Nat)(hu:0<u):(Go.Lib.decDigits u).head?≠some 48:=by
 induction u using Nat.strongRecOn with
 |_ u ih =>
  by_cases h:u<10
  ·rw[AQ h];intro e;have e':UInt8.ofNat (48+u)=48:=Option.some.inj e
   have:=(FC u h).2
   rw[e'] at this;have h48:(48:UInt8).toNat=48:=rfl;omega
  ·rw[Ai h,List.head?_append];have hne:=DB (u / 10);have h2:=ih (u / 10) (by omega) (by omega)
   cases hd:Go.Lib.decDigits (u / 10) with
   |nil=>exact absurd hd hne
   |cons b l=>rw[hd] at h2;simpa using h2
theorem Gq (u:Nat):decOf (Go.Lib.decDigits u)=some u:=by
 have h:¬((Go.Lib.decDigits u).head?=some 48∧1<(Go.Lib.decDigits u).length):=by
  rintro⟨h1,h2⟩;by_cases hu:0<u
  ·exact absurd h1 (FD u hu)
  ·have:u=0:=by omega
   subst this;rw[AQ (by decide)] at h2
   simp at h2
 unfold decOf;rw[if_pos ⟨DB u,FZ u,h⟩,FY]
theorem FX:∀(k:Nat) (l:List UInt8),l.length=k→l≠[]→l.all digB=true→¬(l.head?=some 48∧1<l.length)→Go.Lib.decDigits (valD 0 l)=l:=by
 intro k;induction k with
 |zero=>intro l h1 h2;exact absurd (List.eq_nil_of_length_eq_zero h1) h2
 |succ k ih =>
  intro l h1 h2 h3 h4;obtain⟨m,b,rfl⟩:∃m b,l=m++[b]:=⟨l.dropLast,l.getLast h2,(List.dropLast_concat_getLast h2).symm⟩;simp at h1;rw[List.all_append] at h3;simp only[Bool.and_eq_true,List.all_cons,List.all_nil,Bool.and_true] at h3;obtain⟨hm,hb⟩:=h3;have hb':48≤b.toNat∧b.toNat≤57:=by simpa [digB] using hb
  have hdv:dv b<10∧48+dv b=b.toNat:=by unfold dv;omega
  have eb:UInt8.ofNat (48+dv b)=b:=by
   rw[hdv.2];exact UInt8.ofNat_toNat
  replace hdv:=hdv.1;rw[Fh];generalize dv b=B at hdv eb ⊢;cases m with
  |nil =>
   have e2:valD 0 []=0:=rfl;rw[e2,Nat.mul_zero,Nat.zero_add,AQ hdv,eb,List.nil_append]
  |cons c m =>
   have hm0:¬((c::m).head?=some 48∧1<(c::m).length):=by
    rintro⟨e,_⟩;exact h4 ⟨by simpa using e,by simp⟩
   have e:=ih (c::m) h1 (by simp) hm hm0
   have hc:c≠48:=fun e=>h4 ⟨by simp[e],by simp⟩
   have hcd:48≤c.toNat∧c.toNat≤57:=by
    have:=hm
    simp only[List.all_cons,Bool.and_eq_true] at this;simpa [digB] using this.1
   have hpos:0<valD 0 (c::m):=by
    have:0<dv c:=by
     have:c.toNat≠48:=fun e=>hc (UInt8.toNat_inj.1 (by simpa using e))
     unfold dv;omega
    rw[DM];exact Nat.lt_of_lt_of_le this (GP m _)
   generalize valD 0 (c::m)=V at hpos e ⊢;have q1:¬(10*V+B)<10:=by omega
   have q2:(10*V+B) / 10=V:=by omega
   have q3:(10*V+B)%10=B:=by omega
   rw[Ai q1,q2,q3,e,eb]
theorem Kl {l:List UInt8}{n:Nat}(h:decOf l=some n):l=Go.Lib.decDigits n:=by
 unfold decOf at h;split at h
 ·rename_i hc;injection h with h
  rw[←h];exact(FX _ l rfl hc.1 hc.2.1 hc.2.2).symm
 ·cases h
theorem Km {l:List UInt8}{n:Nat}(h:decOf l=some n)(h2:n<10 ^ 20):l.length≤20:=by
 have hl:=Kl h;unfold decOf at h;split at h
 ·rename_i hc;injection h with h
  rcases l with _|⟨c,m⟩
  ·simp
  ·by_cases h1:1<(c::m).length
   ·have hc48:c≠48:=fun e=>hc.2.2 ⟨by simp[e],h1⟩
    have hcd:48≤c.toNat∧c.toNat≤57:=by
     have:=hc.2.1
     simp only[List.all_cons,Bool.and_eq_true] at this;simpa [digB] using this.1
    have hc1:1≤dv c:=by
     have:c.toNat≠48:=fun e=>hc48 (UInt8.toNat_inj.1 (by simpa using e))
     unfold dv;omega
    have hge:=GQ m (dv c);have e:valD 0 (c::m)=valD (dv c) m:=DM c m;rw[←e,h] at hge
    have:10 ^ m.length≤n:=Nat.le_trans (Nat.le_mul_of_pos_left _ hc1) hge
    have h3:10 ^ m.length<10 ^ 20:=by omega
    have:=(Nat.pow_lt_pow_iff_right (by decide:1<10)).1 h3
    simp;omega
   ·omega
 ·cases h
inductive Itm where
 |num (n:Nat)
 |truth (b:Bool)
 |nothing
 deriving DecidableEq
def Itm.ok:Itm→Prop
 | .num n=>n≤18446744073709551615
 |_=>True
def bYes:List UInt8:=[121,101,115]
def bNo:List UInt8:=[110,111]
def bNone:List UInt8:=[110,111,110,101]
def itmW:Itm→List UInt8
 | .num n=>Go.Lib.decDigits n
 | .truth true=>bYes
 | .truth false=>bNo
 | .nothing=>bNone
def textI (l:List Itm):List UInt8:=Go.Lib.join (l.map itmW) [32]
theorem IY (x:Itm)(h:x.ok):(itmW x).length≤20:=by
 rcases x with n|b|_
 ·exact Km (Gq n) (by have:n≤18446744073709551615:=h;omega)
 ·cases b<;>decide
 ·decide
theorem Gh (r:List (List UInt8))(k:Nat)(h:∀w∈r,w.length≤k):(Go.Lib.joinTail [32] r).length≤r.length*(k+1):=by
 induction r with
 |nil=>simp[Go.Lib.joinTail]
 |cons w r ih =>
  have:=ih (fun w hw=>h w (by simp[hw]))
  have hw:=h w (by simp)
  simp[Go.Lib.joinTail] at this ⊢;rw[Nat.add_mul];omega
theorem MX (l:List Itm)(h:∀x∈l,x.ok):(textI l).length≤l.length*21:=by
 cases l with
 |nil=>simp[textI,Go.Lib.join_nil]
 |cons x l =>
  unfold textI;rw[List.map_cons,Go.Lib.join_cons,List.length_append];have h1:=IY x (h x (by simp))
  have h2:=Gh (l.map itmW) 20 (by
   intro w hw;obtain⟨y,hy,rfl⟩:=List.mem_map.1 hw;exact IY y (h y (by simp[hy])))
  simp at h2 ⊢;omega
abbrev PWr:=List (Nat×Nat)
def wAt (w:PWr)(p:Nat):Option Nat:=w.findIdx? (·.1==p)
def wGet (w:PWr)(p:Nat):Option Nat:=(wAt w p).map fun i=>(w.getD i (0,0)).2
def wPut (most:Nat)(w:PWr)(p v:Nat):Nat×PWr :=
 if p<1∨256≤p then(2,w)
 else match wAt w p with
 |some i=>(0,w.set i (p,v))
 |none=>if most≤w.length then(5,w) else(0,w++[(p,v)])
def wTakeF (most:Nat):PWr→PWr→Nat×PWr
 |w,[]=>(0,w)
 |w,c::l=>let r:=wPut most w c.1 c.2;if r.1≠0 then r else wTakeF most r.2 l
def wTake (most:Nat)(w l:PWr):Nat×PWr :=
 let r:=wTakeF most w l
 if r.1≠0 then(r.1,w) else r
structure PLv where
 most:Nat
 rows:List PWr
def PLv.new (most:Nat):PLv:=⟨min most 96,[[]]⟩
def PLv.inmost (l:PLv):PWr:=l.rows.getLastD []
def PLv.setIn (l:PLv)(w:PWr):PLv:={l with rows:=l.rows.dropLast++[w]}
def PLv.room (l:PLv):Int:=l.rows.foldl (fun n r=>n-(r.length:Int)) l.most
def PLv.open_ (l:PLv):Nat×PLv:=if 6≤l.rows.length then(9,l) else(0,{l with rows:=l.rows++[[]]})
def PLv.drop (l:PLv):Nat×PLv:=if l.rows.length=1 then(10,l) else(0,{l with rows:=l.rows.dropLast})
def PLv.keep (l:PLv):Nat×PLv :=
 let w:=l.inmost;let r:=l.drop
 if r.1≠0 then r else
 let t:=wTake 96 r.2.inmost w
 (t.1,r.2.setIn t.2)
def PLv.put (l:PLv)(p v:Nat):Nat×PLv :=
 if p<1∨256≤p then(2,l)
 else if(wGet l.inmost p).isNone∧l.room=0 then(5,l)
 else let r:=wPut 96 l.inmost p v;(r.1,l.setIn r.2)
def PLv.getF:List PWr→Nat→Option Nat
 | [],_=>none
 |r::l,p=>(wGet r p).or (PLv.getF l p)
def PLv.get (l:PLv)(p:Nat):Option Nat:=PLv.getF l.rows.reverse p
def PLv.cells (l:PLv):PWr:=l.rows.reverse.foldl (fun out r=>(wTake 96 (wTake 96 [] r).2 out).2) []
structure PVw where
 facts:List (Option Nat)
 order:List Nat
 logs:PLv
 need:Nat
def PVw.new (words most:Nat):PVw:=⟨List.replicate (max 32 (min words 256)) none,[],PLv.new most,0⟩
def PVw.is (v:PVw)(p:Nat):Bool:=decide (1≤p)&&decide (p<v.facts.length)
def PVw.know (v:PVw)(p x:Nat):Nat×PVw :=
 if v.is p=false then(2,v)
 else match v.facts.getD p none with
 |some y=>(if y≠x then 14 else 0,v)
 |none=>(0,{v with facts:=v.facts.set p (some x),order:=v.order++[p]})
def PVw.known (v:PVw):List (Nat×Nat):=v.order.map fun p=>(p,(v.facts.getD p none).getD 0)
def PVw.read (v:PVw)(p:Nat):Nat×Nat×PVw :=
 if v.is p=false then(0,2,v)
 else match v.logs.get p with
 |some x=>(x,0,v)
 |none=>match v.facts.getD p none with
  |some x=>(x,0,v)
  |none=>(0,11,{v with need:=p})
def PVw.write (v:PVw)(p x:Nat):Nat×PVw :=
 if v.is p=false then(2,v) else let r:=v.logs.put p x;(r.1,{v with logs:=r.2})
def PVw.open_ (v:PVw):Nat×PVw:=let r:=v.logs.open_;(r.1,{v with logs:=r.2})
def PVw.keep (v:PVw):Nat×PVw:=let r:=v.logs.keep;(r.1,{v with logs:=r.2})
def PVw.drop (v:PVw):Nat×PVw:=let r:=v.logs.drop;(r.1,{v with logs:=r.2})
def rdGet (r:List (Nat×Nat))(s:Nat):Option Nat:=(r.find? (·.1==s)).map (·.2)
def rdAdd (r:List (Nat×Nat))(x:Nat×Nat):Nat×List (Nat×Nat) :=
 if 16≤x.1∨4611686018427387904≤x.2 then(1,r)
 else match rdGet r x.1 with
 |some v=>(if v≠x.2 then 14 else 0,r)
 |none=>if r.length=16 then(5,r) else(0,r++[x])
structure PPt where
 op:Int
 at_:Nat
 regs:List Nat
 told:Nat
structure PIt where
 code:List PIns
 fin:Nat
 err:Nat
 regs:List Nat
 out:List Itm
 at_:Nat
 next:Nat
 left:Nat
 opens:List PPt
def PIt.new (code:List PIns)(fuel:Nat):PIt:=⟨code,0,0,List.replicate 8 0,[],0,0,min fuel 400,[]⟩
def PIt.reg (x:PIt)(k:Int):Nat:=x.regs.getD (k.toNat%8) 0
def PIt.setReg (x:PIt)(k:Int)(v:Nat):PIt:={x with regs:=x.regs.set (k.toNat%8) v}
def placeP (base:Nat)(off:Int):Nat×Nat :=
 if 2147483648≤base∨2147483648≤(base:Int)+off∨(base:Int)+off<6 then(0,2) else(((base:Int)+off).toNat,0)
def PIt.begin (x:PIt)(v:PVw)(op:Int)(p:Nat):Nat×PIt×PVw :=
 let r:=v.open_
 if r.1≠0 then(r.1,x,r.2) else(0,{x with opens:=x.opens++[⟨op,p,x.regs,x.out.length⟩]},r.2)
def PIt.leave (x:PIt):PPt×PIt:=(x.opens.getLastD ⟨0,0,[],0⟩,{x with opens:=x.opens.dropLast})
def PIt.back (x:PIt)(p:PPt):PIt:={x with regs:=p.regs,out:=x.out.take p.told}
def PIt.match_ (x:PIt)(k:Nat):Nat:=((matchP x.code).getD k 0).toNat
def PIt.retryF:Nat→PIt→PVw→Nat×PIt×PVw
 |0,x,v=>(0,{x with next:=x.at_,fin:=3},v)
 |n+1,x,v =>
  if x.opens=[] then(0,{x with next:=x.at_,fin:=3},v) else
  let p:=x.leave.1;let x:=x.leave.2;let r:=v.drop
  if r.1≠0 then(r.1,x,r.2) else
  if p.op=17 then
   let x:=x.back p;let k:=x.match_ p.at_
   {x with next:=k+1}.begin r.2 18 k
  else PIt.retryF n x r.2
def PIt.retry (x:PIt)(v:PVw):Nat×PIt×PVw:=PIt.retryF x.opens.length x v
def PIt.exec (x:PIt)(v:PVw)(i:PIns):Nat×PIt×PVw :=
 let a:=x.reg i.a;let b:=x.reg i.b;let c:=x.reg i.c
 match i.op with
 |1=>(0,x.setReg i.a i.n.toNat,v)
 |2=>(0,x.setReg i.a b,v)
 |3=>(0,x.setReg i.a ((b+c)%18446744073709551616),v)
 |12=>(0,{x with next:=i.c.toNat},v)
 |13=>(0,if a=0 then {x with next:=i.c.toNat} else x,v)
 |21=>if 16≤x.out.length then(5,x,v) else(0,{x with out:=x.out++[.num a]},v)
 |8 =>
  let p:=placeP b i.c
  if p.2≠0 then(p.2,x,v) else
  let r:=v.read p.1
  (r.2.1,if r.2.1=0 then x.setReg i.a r.1 else x,r.2.2)
 |9 =>
  let p:=placeP a i.c
  if p.2≠0 then(p.2,x,v) else
  let r:=v.write p.1 b
  (r.1,x,r.2)
 |14=>x.begin v 14 x.at_
 |17=>x.begin v 17 x.at_
 |15=>let r:=v.keep;(r.1,x.leave.2,r.2)
 |19=>let r:=v.keep;(r.1,x.leave.2,r.2)
 |18=>let r:=v.keep;(r.1,{x.leave.2 with next:=x.match_ x.at_+1},r.2)
 |_=>x.retry v
def PIt.runF:Nat→PIt→PVw→Nat×PIt×PVw
 |0,x,v=>(x.fin,x,v)
 |n+1,x,v =>
  if x.fin≠0 then(x.fin,x,v)
  else if x.at_=x.code.length then(2,{x with fin:=2},v)
  else if x.left=0 then(4,{x with fin:=4,err:=6},v)
  else
   let r:={x with next:=x.at_+1}.exec v (x.code.getD x.at_ PIns.none)
   if r.1=0 then PIt.runF n {r.2.1 with at_:=r.2.1.next,left:=r.2.1.left-1} r.2.2
   else if r.1=11 then(1,r.2.1,r.2.2)
   else(4,{r.2.1 with fin:=4,err:=r.1},r.2.2)
def PIt.run (x:PIt)(v:PVw):Nat×PIt×PVw:=PIt.runF (x.left+1) x v
structure PSt where
 words:Nat
 stripes:Nat
 wide:Nat
 threads:Nat
 start:Nat
 spins:Nat
 writes:Nat
 fuel:Nat
def PSt.held (s:PSt):PSt :=
 ⟨max 32 (min s.words 256),max 1 (min s.stripes 16),max 1 (min s.wide 16),max 1 (min s.threads 4),min s.start 4611686018427387903,min s.spins 4,min s.writes 96,min s.fuel 400⟩
inductive PIn where
 |none
 |fetch (f:PFe)
 |extend (x:PEx)
 |commit (c:PCo)
def PIn.next:PIn→POp×Bool
 | .none=>(POp.zero,false)
 | .fetch f=>f.next
 | .extend x=>x.next
 | .commit c=>c.next
def PIn.tell:PIn→PAns→PIn
 | .none,_=>.none
 | .fetch f,a=>.fetch (f.tell a)
 | .extend x,a=>.extend (x.tell a)
 | .commit c,a=>.commit (c.tell a)
def PIn.rule:PIn→PPat
 | .none=>PPat.new 0 0
 | .fetch f=>f.rule
 | .extend x=>x.rule
 | .commit c=>c.rule
structure PAt where
 me:Nat
 run:PIt
 v:PVw
 reads:List (Nat×Nat)
 state:Nat
 inner:PIn
 begun:Bool
 begin:Nat
 stamp:Nat
 fin:Nat
 by_:Int
 err:Nat
 blocking:Bool
def PAt.new (me:Nat)(s:PSt)(p:List PIns):PAt :=
 ⟨me,PIt.new p s.fuel,PVw.new s.words s.writes,[],0,.none,false,0,0,0,-1,0,false⟩
def PAt.next (x:PAt):POp×Bool :=
 match x.state with
 |0=>({POp.at' 9 x.me with word:=1},true)
 |1=>(POp.at' 6 0,true)
 |2=>({POp.at' 9 x.me with word:=x.stamp+1},true)
 |7=>(POp.at' 9 x.me,true)
 |8=>(POp.zero,false)
 |_=>x.inner.next
def PAt.out (x:PAt)(fin err:Nat)(b:Int):PAt:={x with fin:=fin,err:=err,by_:=b,state:=7}
def PAt.ask (x:PAt)(s:PSt)(p:Nat):PAt:={x with state:=3,inner:=.fetch (PFe.new x.me p (stripeOf p s.stripes s.wide) s.spins x.stamp)}
def PAt.later (x:PAt)(s:PSt)(state:Nat):PAt:={x with state:=state,inner:=.extend (PEx.new x.me s.spins x.reads)}
def PAt.work (x:PAt)(s:PSt):PAt :=
 let r:=x.run.run x.v;let x:={x with run:=r.2.1,v:=r.2.2}
 match r.1 with
 |1=>x.ask s x.v.need
 |3=>{x with blocking:=true}.later s 5
 |4=>x.out 4 x.run.err (-1)
 |_ =>
  let cells:=x.v.logs.cells
  if cells=[] then x.out 2 0 (-1)
  else {x with state:=6,inner:=.commit (PCo.new x.me s.spins x.stamp x.reads cells s.stripes s.wide)}
def PAt.fetched (x:PAt)(s:PSt)(f:PFe):PAt :=
 if f.rule.fin=6 then x.later s 4
 else
  let seen:=if f.rule.fin=2 then(f.stripe,f.lock.ver) else(0,0)
  let word:=if f.rule.fin=2 then f.word else 0
  let r:=rdAdd x.reads seen;let x:={x with reads:=r.2}
  if r.1=0 then {x with v:=(x.v.know x.v.need word).2}.work s
  else if r.1=14 then x.out 5 0 (-1)
  else x.out 4 r.1 (-1)
def PAt.ended (x:PAt)(s:PSt):PAt :=
 match x.inner with
 | .none=>x
 | .fetch f=>x.fetched s f
 | .extend e =>
  let x:={x with stamp:=if e.rule.fin=2 then e.stamp else 0}
  if x.state=4 then x.ask s x.v.need else x.out 3 0 (-1)
 | .commit c=>x.out c.rule.fin c.rule.err (-1)
def PAt.writing (x:PAt):Bool :=
 x.state != 8&&(match x.inner with | .commit c=>c.isWriting||c.rule.fin==2|_=>false)
def PAt.told (x:PAt)(s:PSt):PAt :=
 let y:=if x.inner.rule.fin=0 then x else if x.inner.rule.fin=5 then x.out 5 0 x.inner.rule.by_ else x.ended s
 if y.writing then {y with stamp:=match y.inner with | .commit c=>c.stampOf|_=>0} else y
def PAt.tell (x:PAt)(s:PSt)(a:PAns):PAt :=
 if x.state=8 then x
 else if a.err≠0 then {x.out 4 a.err (-1) with state:=8}
 else match x.state with
 |0=>{x with state:=1}
 |1=>{x with begun:=true,begin:=a.word,stamp:=a.word,state:=2}
 |2=>x.work s
 |7=>{x with state:=8}
 |_=>{x with inner:=x.inner.tell a}.told s
def PAt.finOf (x:PAt):Nat:=if x.state≠8 then 0 else x.fin
def PAt.errOf (x:PAt):Nat:=if x.state≠8 then 0 else x.err
def PAt.byOf (x:PAt):Int:=if x.state≠8 then -1 else x.by_
def PAt.committed (x:PAt):Bool:=x.finOf==2||x.writing
def PAt.cells (x:PAt):List (Nat×Nat):=if x.committed then x.v.logs.cells else []
def PAt.slate (x:PAt):List UInt8:=if x.committed then textI x.run.out else []
def PAt.blockingOf (x:PAt):Bool:=x.state != 8&&x.blocking
structure PTo where
 thread:Nat
 job:Nat
 try_:Nat
 kind:Nat
 err:Nat
 begin:Nat
 stamp:Nat
 born:Nat
 ended:Nat
 reads:List (Nat×Nat)
 cells:List (Nat×Nat)
 slate:List UInt8
structure PRe where
 kind:Nat
 err:Nat
 slate:List UInt8
 stamp:Nat
structure PTh where
 me:Nat
 jobs:List (List PIns)
 job:Nat
 state:Nat
 tries:Nat
 conflicts:Nat
 now:Option PAt
 born:Nat
 alarmed:Bool
 past:List PTo
 results:List PRe
 by_:Nat
 since:Nat
 yielding:Bool
 pauses:Int
def PTh.again (t:PTh)(s:PSt):PTh :=
 let t:={t with born:=0,alarmed:=false}
 if t.job=t.jobs.length then {t with state:=6,now:=none}
 else {t with now:=some (PAt.new t.me s (t.jobs.getD t.job [])),state:=1}
def PTh.following (t:PTh)(s:PSt):PTh:={t with job:=t.job+1,tries:=0,conflicts:=0}.again s
def PTh.new (me:Nat)(s:PSt)(jobs:List (List PIns)):PTh :=
 PTh.again {me:=me,jobs:=jobs.take 6,job:=0,state:=0,tries:=0,conflicts:=0,now:=none,born:=0,alarmed:=false,past:=[],results:=[],by_:=0,since:=0,yielding:=false,pauses:=0} s
def PTh.next (t:PTh):POp×Bool :=
 match t.state with
 |1=>match t.now with|some x=>x.next|none=>(POp.zero,false)
 |2=>(POp.at' 8 t.by_,true)
 |_=>(POp.zero,false)
def mostPause:Nat→Nat
 |0=>1
 |n+1=>min (2*mostPause n) 8
def PTh.pause (t:PTh)(s:PSt)(draw:Nat):PTh :=
 let p:=draw%(mostPause (min t.conflicts 8)+1);let t:={t with pauses:=p,state:=3}
 if p=0 then t.again s else t
def PAt.toldOf (x:PAt)(t:PTh)(pick:Nat):PTo :=
 ⟨t.me,t.job,t.tries,if x.writing then 2 else x.finOf,x.errOf,x.begin,x.stamp,t.born,pick,x.v.known,x.cells,x.slate⟩
def PTh.ended (t:PTh)(s:PSt)(x:PAt)(draw pick:Nat):PTh :=
 let t:={t with past:=t.past++[x.toldOf t pick],tries:=t.tries+1}
 if x.finOf=5 then
  let t:={t with conflicts:=t.conflicts+1}
  if 0≤x.byOf∧x.byOf<s.threads then {t with state:=2,by_:=x.byOf.toNat,yielding:=false}
  else t.pause s draw
 else if x.finOf=3 then
  if t.alarmed then t.again s else {t with state:=4}
 else {t with results:=t.results++[(⟨x.finOf,x.errOf,x.slate,x.stamp⟩:PRe)]}.following s
def PTh.yield_ (t:PTh)(s:PSt)(a:PAns)(draw:Nat):PTh :=
 if a.err=0∧a.word≠0∧(t.yielding=false∨a.word=t.since) then {t with yielding:=true,since:=a.word}
 else t.pause s draw
def PTh.tell (t:PTh)(s:PSt)(a:PAns)(draw pick:Nat):PTh :=
 match t.state with
 |1=>match t.now with
  |none=>t
  |some x =>
   let y:=x.tell s a;let t:={t with now:=some y,born:=if y.begun&&!x.begun then pick else t.born}
   if y.finOf≠0 then t.ended s y draw pick else t
 |2=>t.yield_ s a draw
 |_=>t
def PTh.pauseOne (t:PTh)(s:PSt):PTh :=
 if t.state≠3 then t else
 let t:={t with pauses:=t.pauses-1}
 if t.pauses=0 then t.again s else t
def PTh.wake (t:PTh)(s:PSt)(stripe ver:Nat):PTh :=
 match t.now with
 |none=>t
 |some x =>
  if x.reads.any (fun r=>r.1==stripe&&r.2 != ver) then
   if t.state=4 then t.again s
   else if t.state=1∧x.blockingOf then {t with alarmed:=true} else t
  else t
def PTh.attempts (t:PTh):List PTo :=
 t.past++(if t.state=1 then match t.now with|some x=>if x.begun then [x.toldOf t 0] else []|none=>[] else [])
structure PMc where
 s:PSt
 mem:PMm
 thr:List PTh
 picks:Nat
 last:POp
 did:Bool
def freshW (n:Nat):List Nat:=(List.replicate (max 32 (min n 256)) 0).set 5 14
def PMc.new (s:PSt)(jobs:List (List (List PIns))):PMc :=
 let jobs:=jobs.take 4;let s:={s with threads:=jobs.length}.held
 ⟨s,⟨freshW s.words,List.replicate s.stripes PLk.zero,s.start,List.replicate s.threads 0,1⟩,
  (List.range s.threads).map (fun i=>PTh.new i s (jobs.getD i [])),0,POp.zero,false⟩
def PMc.pick (m:PMc)(i draw:Nat):PMc :=
 match m.thr[i]? with
 |none=>m
 |some t =>
  let m:={m with picks:=m.picks+1,last:=t.next.1,did:=t.next.2}
  if m.did=false then {m with thr:=m.thr.set i (t.pauseOne m.s)}
  else
   let r:=doC m.mem m.last;let m:={m with mem:=r.2,thr:=m.thr.set i (t.tell m.s r.1 draw m.picks)}
   if m.last.kind≠5 then m
   else {m with thr:=m.thr.mapIdx fun k o=>if k=i then o else o.wake m.s m.last.at_ m.last.lock.ver}
def PMc.attempts (m:PMc):List PTo:=m.thr.flatMap PTh.attempts
def PMc.rests (m:PMc):Bool:=m.thr.all fun t=>t.state==6||t.state==4
instance:Coe PSt (Array Value):=⟨fun s=>#[s.words,s.stripes,s.wide,s.threads,υ s.start,s.spins,s.writes,s.fuel]⟩
inductive Jq|σ (s:PSt)
instance (s:PSt):CoeDep Jq (.σ s) (Array Value):=⟨#[s.words,s.stripes,s.wide,s.threads,υ s.start]⟩
open Jq
structure PCo.small (c:PCo):Prop where
 seen:c.seen.length≤1000
 cells:c.cells.length≤1000
 stripes:c.stripes.length≤1000
 was:c.was.length≤1000
 now:c.now≤4611686018427387904
structure PCo.ok (c:PCo):Prop where
 state:c.state≤7
 take:c.rule.fin=0→c.state≤1→c.was.length<c.stripes.length
 seen:c.rule.fin=0→c.state=4→c.at_<c.seen.length
 cells:c.rule.fin=0→c.state=5→c.at_<c.cells.length
 give:c.rule.fin=0→c.state=6→c.at_<c.stripes.length
 leave:c.rule.fin=0→c.state=7→c.at_<c.was.length
 was:c.was.length≤c.stripes.length
structure PCo.wf (c:PCo):Prop where
 small:c.small
 ok:c.ok
 pos:0<c.stripes.length
 sorted:c.stripes.Pairwise (· < ·)
 full:c.rule.fin=0→2≤c.state→c.state≤4→c.was.length=c.stripes.length
 at_:c.at_≤1000
structure PLv.ok (l:PLv):Prop where
 some_:l.rows≠[]
 few:l.rows.length≤6
 most:l.most≤96
 rows:∀r∈l.rows,r.length≤96∧∀x∈r,x.1≤1000000
structure PVw.ok (v:PVw):Prop where
 logs:v.logs.ok
 facts:v.facts.length≤256
 order:v.order.length≤v.facts.length
 places:∀p∈v.order,p<v.facts.length
end Go.Proofs.YtfodmgaliclhfaaGreatDoor
