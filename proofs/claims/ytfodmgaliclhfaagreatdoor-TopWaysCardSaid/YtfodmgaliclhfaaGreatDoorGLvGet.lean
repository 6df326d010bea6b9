/- Lemmas. -/
import Derived.Test.YtfodmgaliclhfaaGreatDoorGWrTake
import Derived.Test.YtfodmgaliclhfaaGreatDoorShelf
import Derived.Test.YtfodmgaliclhfaaGreatDoorGOkD
import Derived.RangeFuncNested
import Derived.RangeFuncBound
import Derived.RangeFuncCalls
import Derived.RangeFuncLeaves
import Derived.Shelf.Abstract
import Derived.Shelf.RegionOpen
import Derived.WalkKit
import Derived.OwnWalkIn
import Derived.TacticsInMore
import Derived.LoopNIn
import Derived.LoopIn
namespace Go.Proofs.YtfodmgaliclhfaaGreatDoor
set_option linter.unusedVariables false
set_option linter.unusedSimpArgs false
set_option maxRecDepth 100000
set_option maxHeartbeats 8000000
open Go.RowKit Go.Proofs.Tryz Iq Jq
section
variable (ω w : World) (F : HP)
def pV (b:Nat):Value:=.pointer b
def pS (l:List Nat):List Value:=l.flatMap fun b=>[pV b]
theorem Ld (l:List Nat)(b:Nat):pS (l++[b])=pS l++[pV b]:=by simp[pS]
theorem Tg (l:List Nat):(pS l).length=l.length:=by
 induction l with
 |nil=>rfl
 |cons b l ih=>simp[pS] at ih ⊢;omega
def lvOne (r:Nat)(w:PWr):HP:=ex fun b=>bk r 296 #[pV b,.slice none 0 0]*wrH b 96 w
def lvAll:List Nat→List PWr→HP
 | [],[]=>emp
 |r::rs,w::ws=>lvOne r w*lvAll rs ws
 |_,_=>fact False
theorem Cg:∀(rs:List Nat) (ws:List PWr) (r:Nat) (w:PWr),rs.length=ws.length→lvAll (rs++[r]) (ws++[w])=lvAll rs ws*lvOne r w
 | [],[],r,w,_=>by simp only[List.nil_append,lvAll,Ac,AD]
 |a::rs,x::ws,r,w,h=>by
  simp only[List.cons_append,lvAll];rw[Cg rs ws r w (by simpa using h),Aa]
 | [],x::ws,r,w,h=>by simp at h
 |a::rs,[],r,w,h=>by simp at h
theorem Cv:∀(rs:List Nat) (ws:List PWr) (i:Nat),rs.length=ws.length→i<ws.length→∃R,∀w',lvAll rs (ws.set i w')=lvOne (rs.getD i 0) w'*R
 | [],[],i,_,h=>absurd h (by simp)
 |a::rs,x::ws,0,h,hi=>⟨lvAll rs ws,fun w'=>rfl⟩
 |a::rs,x::ws,i+1,h,hi=>by
  obtain⟨R,hR⟩:=Cv rs ws i (by simpa using h) (by simpa using hi)
  refine⟨lvOne a x*R,fun w'=>?_⟩
  simp only[List.set_cons_succ,lvAll,hR,List.getD_cons_succ];rw[Fj]
 | [],x::ws,i,h,_=>by simp at h
 |a::rs,[],i,h,_=>by simp at h
def lvX (b most:Nat)(A:Option Addr)(c:Nat)(rs:List Nat)(ws:List PWr):HP:=bk b 292 #[most,.slice A rs.length c]*(row 290 1 (.slice A rs.length c) rs.length (pS rs)*lvAll rs ws)
def lvH (b:Nat)(l:PLv):HP:=ex fun A=>ex fun c=>ex fun rs=>fact (rs.length=l.rows.length)*lvX b l.most A c rs l.rows
theorem Bu {ω w:World}{F:HP}{b:Nat}{l:PLv}(h:Sat ω w (lvH b l*F)):∃A c rs,rs.length=l.rows.length∧Sat ω w (lvX b l.most A c rs l.rows*F):=by
 obtain⟨A,h⟩:=h.of_ex;obtain⟨c,h⟩:=h.of_ex;obtain⟨rs,h⟩:=h.of_ex;obtain⟨h1,h2⟩:=h.assoc.of_fact;exact⟨A,c,rs,h1,h2⟩
theorem Cf {ω w:World}{F:HP}{b:Nat}{l:PLv}{A:Option Addr}{c:Nat}{rs:List Nat}(e:rs.length=l.rows.length)(h:Sat ω w (lvX b l.most A c rs l.rows*F)):Sat ω w (lvH b l*F) :=
 Sat.to_ex A (Sat.to_ex c (Sat.to_ex rs ((h.to_fact e).assoc')))
structure LvC (w:World) (b n i g cp r wb:Nat):Prop where
 rows:w.cell? (κ b 1)=some (.slice (some ⟨g,0,none⟩) n cp)
 last:w.cell? (κ g i)=some (pV r)
 cells:w.cell? r=some (pV wb)
 frees:w.cell? (κ r 1)=some (.slice none 0 0)
 lb:b<w.heap.size
 lg:g<w.heap.size
 lr:r<w.heap.size
theorem PLv.inmost_at (l:PLv)(h:l.rows≠[]):l.inmost=l.rows.getD (l.rows.length-1) []:=by
 unfold PLv.inmost;rw[gD,←List.getLast?_eq_getElem?];rw[List.getLastD_eq_getLast?]
theorem Ou (x:PWr)(rows:List PWr)(h:rows≠[]):rows.dropLast++[x]=rows.set (rows.length-1) x:=by
 rcases List.eq_nil_or_concat rows with rfl|⟨i,a,rfl⟩
 ·exact absurd rfl h
 ·simp
theorem PLv.setIn_at (l:PLv)(h:l.rows≠[])(x:PWr):l.setIn x={l with rows:=l.rows.set (l.rows.length-1) x}:=by
 unfold PLv.setIn;rw[Ou x l.rows h]
theorem El {ω w:World}{F:HP}{b:Nat}{l:PLv}(h:Sat ω w (lvH b l*F)){i:Nat}(hlt:i<l.rows.length):∃g cp r wb G,Sat ω w (wrH wb 96 (l.rows.getD i [])*(bk r 296 #[pV wb,.slice none 0 0]*(G*F)))∧(∀w' P F',Sat ω w' (P*(bk r 296 #[pV wb,.slice none 0 0]*(G*F')))→LvC w' b l.rows.length i g cp r wb)∧(∀w' x F',Sat ω w' (wrH wb 96 x*(bk r 296 #[pV wb,.slice none 0 0]*(G*F')))→Sat ω w' (lvH b {l with rows:=l.rows.set i x}*F')):=by
 obtain⟨A,c,rs,hl,h⟩:=Bu h;obtain⟨R,hR⟩:=Cv rs l.rows i hl hlt;have e1:lvAll rs l.rows=lvOne (rs.getD i 0) (l.rows.getD i [])*R:=by
  have h2:=hR (l.rows.getD i []);rw[←h2]
  congr 1
  rw[gD,List.getElem?_eq_getElem hlt];simp
 unfold lvX at h;rw[e1] at h;have h3:Sat ω w (lvOne (rs.getD i 0) (l.rows.getD i [])*(bk b 292 #[l.most,.slice A rs.length c]*(row 290 1 (.slice A rs.length c) rs.length (pS rs)*(R*F)))):=h.perm (by ac_rfl)
 obtain⟨wb,h4⟩:=h3.of_ex;obtain⟨g,rfl,_,_⟩:=h4.right.right.rowAt (l:=rs) (f:=fun b=>[pV b]) (fun _=>rfl) 0 (i:=i) (by omega)
 refine⟨g,c,rs.getD i 0,wb,(bk b 292 #[l.most,.slice (some ⟨g,0,none⟩) rs.length c]*(row 290 1 (.slice (some ⟨g,0,none⟩) rs.length c) rs.length (pS rs)*R)),h4.perm (by ac_rfl),fun w' P F' h5=>?_,fun w' x F' h5=>?_⟩
 ·have h6:=h5.right;have h7:=h6.right.assoc;obtain⟨g',e',lg,hc⟩:=h7.right.assoc.rowAt (l:=rs) (f:=fun b=>[pV b]) (fun _=>rfl) 0 (i:=i) (by omega)
  injection e' with e'
  injection e' with e'
  subst e';have h8:=hc 0 (by omega)
  rw[Nat.mul_one,Nat.add_zero] at h8;exact⟨by rw[←hl];exact h7.blk.cell 1,h8,h6.blk.cell 0,h6.blk.cell 1,h7.blk.lt,lg,h6.blk.lt⟩
 ·refine Cf (A:=some ⟨g,0,none⟩) (c:=c) (rs:=rs) (by simpa using hl) ?_
  unfold lvX;simp only[hR];have h6:Sat ω w' ((bk (rs.getD i 0) 296 #[pV wb,.slice none 0 0]*wrH wb 96 x)*(bk b 292 #[l.most,.slice (some ⟨g,0,none⟩) rs.length c]*(row 290 1 (.slice (some ⟨g,0,none⟩) rs.length c) rs.length (pS rs)*(R*F')))):=h5.perm (by ac_rfl)
  have h7:Sat ω w' (lvOne (rs.getD i 0) x*_):=Sat.to_ex wb h6;exact h7.perm (by ac_rfl)
theorem CG {ω w:World}{F:HP}{b:Nat}{l:PLv}(h:Sat ω w (lvH b l*F))(hn:l.rows≠[]):∃g cp r wb G,Sat ω w (wrH wb 96 l.inmost*(bk r 296 #[pV wb,.slice none 0 0]*(G*F)))∧(∀w' P F',Sat ω w' (P*(bk r 296 #[pV wb,.slice none 0 0]*(G*F')))→LvC w' b l.rows.length (l.rows.length-1) g cp r wb)∧(∀w' x F',Sat ω w' (wrH wb 96 x*(bk r 296 #[pV wb,.slice none 0 0]*(G*F')))→Sat ω w' (lvH b (l.setIn x)*F')):=by
 have hlt:l.rows.length-1<l.rows.length:=by
  have:=List.length_pos_iff.2 hn;omega
 rw[l.inmost_at hn];simp only[l.setIn_at hn];exact El h hlt
theorem PLv.ok.at_ {l:PLv}(h:l.ok)(i:Nat):(l.rows.getD i []).length≤96∧∀x∈l.rows.getD i [],x.1≤1000000:=by
 rcases Nat.lt_or_ge i l.rows.length with hi|hi
 ·rw[gD,List.getElem?_eq_getElem hi];exact h.rows _ (List.getElem_mem hi)
 ·rw[gD,List.getElem?_eq_none hi];simp
theorem PLv.ok.in_ {l:PLv}(h:l.ok):l.inmost.length≤96∧∀x∈l.inmost,x.1≤1000000:=by
 rw[l.inmost_at h.some_];exact h.at_ _
theorem IS (h:Sat ω w F):
  Calls prog 206 #[] w (RetP ω F fun r=>lvOne r []):=by
 have HN:=h_ (OM ω w F h);go_enter func206,ntmps206;go_wp2_with (go_at_call 189;refine(HN.o).mono ?_;rintro e w1 ⟨b,rfl,hx⟩;have HS:=h_ hx);go_ret;refine⟨_,rfl,?_⟩;exact Sat.to_ex b ((HS.o.bkNew rfl).assoc')
theorem Tn (h:Sat ω w F)(m:Nat):
  Calls prog 175 #[m] w (RetP ω F fun b=>lvH b (PLv.new m)):=by
 have HN:=h_ (IS ω w F h);have e:max (0:Int) (min (m:Int) 96)=((min m 96:Nat):Int):=by omega
 go_enter func175,ntmps175;go_wp2_with (go_at_call 206;refine(HN.o).mono ?_;rintro e w1 ⟨b,rfl,hx⟩;have HS:=h_ hx);go_ret;refine⟨_,rfl,Cf (A:=some ⟨w1.heap.size,0,none⟩) (c:=1) (rs:=[b]) rfl ?_⟩;have h1:=(HS.o.bkNew (t:=290) (cs:=#[pV b]) rfl).rowOf (n:=1) (size:=1) rfl (by unfold maxLen;omega)
 have h2:=h1.bkNew (t:=292) (cs:=#[(min m 96:Nat),.slice (some ⟨w1.heap.size,0,none⟩) 1 1]) rfl;rw[World.size_alloc] at h2;have e9:lvX (w1.heap.size+1) (PLv.new m).most (some ⟨w1.heap.size,0,none⟩) 1 [b] (PLv.new m).rows=bk (w1.heap.size+1) 292 #[(min m 96:Nat),.slice (some ⟨w1.heap.size,0,none⟩) 1 1]*(row 290 1 (.slice (some ⟨w1.heap.size,0,none⟩) 1 1) 1 [pV b]*(lvOne b []*emp)):=rfl;rw[e9,Ac];exact h2.perm (by simp only[Aa])
theorem LvC.nob {w w':World}{b n i g cp r wb:Nat}(h:LvC w b n i g cp r wb)(ho:Only Nob w w'):LvC w' b n i g cp r wb :=
 ⟨(ho.cell (p:=⟨b,1,none⟩) h.lb (fun e=>e)).trans h.rows,(ho.cell (p:=⟨g,i,none⟩) h.lg (fun e=>e)).trans h.last,(ho.cell (p:=⟨r,0,none⟩) h.lr (fun e=>e)).trans h.cells,(ho.cell (p:=⟨r,1,none⟩) h.lr (fun e=>e)).trans h.frees,Nat.lt_of_lt_of_le h.lb ho.size,Nat.lt_of_lt_of_le h.lg ho.size,Nat.lt_of_lt_of_le h.lr ho.size⟩
theorem Lg (w:World)(b n g cp r wb:Nat)(h:LvC w b (n+1) n g cp r wb)(hn:n≤1000):
  Calls prog 258 #[.pointer b] w fun e w'=>e=.returned (pV r)∧Only Nob w w':=by
 obtain⟨c1,c2,c3,c4,l1,l2,l3⟩:=h;unfold pV at *
 go_enter func258,ntmps258;go_wp2;go_quiet (fail);go_wp2;go_ret;exact⟨rfl,(Only.refl _ _).drewN _⟩
theorem RT {ω w:World}{F:HP}{b most:Nat}{l:PWr}(h:Sat ω w (wrH b most l*F)):∃A c,w.cell? (κ b 1)=some (.slice A l.length c)∧b<w.heap.size:=by
 obtain⟨A,c,h⟩:=CU h;exact⟨A,c,h.blk.cell 1,h.blk.lt⟩
def roomI (most:Int)(rows:List PWr):Int:=rows.foldl (fun n r=>n-(r.length:Int)) most
theorem Mk (most:Int)(rows:List PWr){k:Nat}(hk:k<rows.length):roomI most (rows.take (k+1))=roomI most (rows.take k)-((rows.getD k []).length:Int):=by
 unfold roomI;rw[List.take_succ_eq_append_getElem hk,List.foldl_append,gD,List.getElem?_eq_getElem hk];rfl
theorem IA:∀(rows:List PWr) (most:Int),(∀r∈rows,r.length≤96)→most-96*(rows.length:Int)≤roomI most rows∧roomI most rows≤most
 | [],most,_=>by simp[roomI]
 |r::rows,most,h=>by
  have h1:=IA rows (most-r.length) (fun x hx=>h x (List.mem_cons_of_mem _ hx))
  have h2:=h r List.mem_cons_self;have e:roomI most (r::rows)=roomI (most-r.length) rows:=rfl;rw[e,List.length_cons];omega
theorem SD (b:Nat)(l:PLv)(h:Sat ω w (lvH b l*F))(ho:l.ok):
  Calls prog 324 #[.pointer b] w fun e w'=>e=.returned l.room∧Only Nob w w':=by
 obtain⟨M,hM⟩:∃M:Int,(l.most:Int)=M:=⟨_,rfl⟩;obtain⟨N,hN⟩:∃N,l.rows.length=N:=⟨_,rfl⟩;have hM2:0≤M∧M≤96:=by have:=ho.most;omega
 have hN2:0<N∧N≤6:=by have:=ho.few;have:=List.length_pos_iff.2 ho.some_;omega
 have HR:Hid (l.room=roomI M (l.rows.take N)):=h_ (by rw[←hN,List.take_length,←hM];rfl)
 rw[HR.o];have HC:Hid (∀k,k<N→∃g cp r wb A c,LvC w b N k g cp r wb∧w.cell? (κ wb 1)=some (.slice A (l.rows.getD k []).length c)∧wb<w.heap.size):=h_ (fun k hk=>by
  obtain⟨g,cp,r,wb,G,h1,h2,_⟩:=El h (i:=k) (by omega)
  obtain⟨A,c,h3,h4⟩:=RT h1;exact⟨g,cp,r,wb,A,c,hN▸h2 w _ _ h1,h3,h4⟩)
 have HS:Hid (∀k,k<N→roomI M (l.rows.take (k+1))=roomI M (l.rows.take k)-((l.rows.getD k []).length:Int)∧-1000≤roomI M (l.rows.take k)∧roomI M (l.rows.take k)≤96∧(l.rows.getD k []).length≤96):=h_ (fun k hk=>by
  have h1:=IA (l.rows.take k) M (fun r hr=>(ho.rows r (List.mem_of_mem_take hr)).1)
  have h2:(l.rows.take k).length≤6:=by rw[List.length_take];omega
  exact⟨Mk M l.rows (hN▸hk),by omega,by omega,(ho.at_ k).1⟩)
 have HM:Hid (w.cell? b=some (.int .i64 M)∧(∃A cp,w.cell? (κ b 1)=some (.slice A N cp))∧b<w.heap.size):=h_ (by
  obtain⟨A,c,rs,hl,h1⟩:=Bu h;have h2:=h1.assoc.blk;rw[hM,hl,hN] at h2;exact⟨h2.cell 0,⟨A,c,h2.cell 1⟩,h2.lt⟩)
 have HZ:Hid (roomI M (l.rows.take 0)=M):=h_ rfl;obtain⟨m0,⟨A,cp,m1⟩,lb⟩:=HM.o;go_enter func324,ntmps324;go_wp2;go_loopw [3,15] (fun n i wr=>∃(k:Nat),k≤N∧i=.int .i64 k∧n=.int .i64 (roomI M (l.rows.take k))∧wr=w) (fun _ i _=>N-(intOf i).toNat)
 case atStart=>exact⟨0,by omega,rfl,by rw[HZ.o],rfl⟩
 case round =>
  obtain⟨k,hk,rfl,rfl,rfl⟩:=hrel;by_cases hlt:k<N
  ·obtain⟨g,cp',r,wb,A',c',⟨c1,c2,c3,c4,l1,l2,l3⟩,c5,l5⟩:=HC.o k hlt;obtain⟨s1,s2,s3,s4⟩:=HS.o k hlt;rw[m1] at c1;injection c1 with c1
   injection c1 with c1 _ _
   subst c1;have HE:=h_ s1;generalize roomI M (l.rows.take k)=x at *
   generalize (l.rows.getD k []).length=y at *
   unfold pV at *
   go_wp2;exact⟨⟨k+1,by omega,by go_num,by rw[HE.o],by first|trivial|rfl⟩,by simp[intOf];omega⟩
  ·obtain rfl:k=N:=by omega
   go_wp2;go_ret;exact⟨rfl,Only.refl _ _⟩
end
section
variable (ω w : World) (F : HP)
theorem Rt {ω w:World}{F:HP}{e:TypeId}{g c:Nat}{rs:List Nat}{r:Nat}(h:Sat ω w (row e 1 (.slice (some ⟨g,0,none⟩) (rs++[r]).length c) (rs++[r]).length (pS (rs++[r]))*F)):Sat ω w (row e 1 (.slice (some ⟨g,0,none⟩) rs.length c) rs.length (pS rs)*F):=by
 have h1:=h.rowCut (m:=rs.length) (by simp)
 rw[Nat.mul_one,Ld,List.take_left' (by rw[Tg])] at h1
 exact h1
theorem IT (b most:Nat)(A:Option Addr)(c:Nat)(rs:List Nat)(r:Nat)(ws:List PWr)(x:PWr)(h:Sat ω w (lvX b most A c (rs++[r]) (ws++[x])*F))(hl:rs.length=ws.length)(h1:1≤rs.length)(h6:rs.length≤5):
  Calls prog 323 #[.pointer b] w (Rets ω F (.int .i64 0) (lvX b most A c rs ws*lvOne r x)):=by
 have h0:Sat ω w (bk b 292 #[most,.slice A (rs++[r]).length c]*(row 290 1 (.slice A (rs++[r]).length c) (rs++[r]).length (pS (rs++[r]))*(lvAll rs ws*(lvOne r x*F)))):=by
  unfold lvX at h;rw[Cg rs ws r x hl] at h;exact h.perm (by ac_rfl)
 obtain⟨g,rfl,lg,_⟩:=h0.right.rowAt (l:=rs++[r]) (f:=fun b=>[pV b]) (fun _=>rfl) 0 (i:=0) (by simp)
 have k1:=h0.blk;have c1:=k1.cell 1;have f1:=k1.frozen;have l1:=k1.lt;have HX:Hid (∀q,Sat ω ((w.drewN q).setCell (κ b 1) (.slice (some ⟨g,0,none⟩) rs.length c)) (lvX b most (some ⟨g,0,none⟩) c rs ws*lvOne r x*F)):=h_ (fun q=>by
  have h2:=((h0.drewN q).put 1 (.slice (some ⟨g,0,none⟩) rs.length c) (cs':=#[most,.slice (some ⟨g,0,none⟩) rs.length c]) rfl).swap;have h3:=(Rt h2).swap;exact h3.perm (by unfold lvX;ac_rfl))
 have hlen:(rs++[r]).length=rs.length+1:=by simp
 rw[hlen] at c1;have hcap:rs.length+1≤c:=by
  rcases h0.right.cases with⟨h8,_⟩|⟨g',cap,cur,h8,h9,_⟩
  ·cases h8
  ·injection h8 with _ _ h8
   subst h8;rw[←hlen];exact h9
 clear h h0 k1 hlen hl;generalize rs.length=n at *
 have e2:((((n+1:Nat):Int)==1))=false:=by rw[beq_eq_false_iff_ne];omega
 have e3:(((n:Int)+1)==1)=false:=by rw[beq_eq_false_iff_ne];omega
 have hcc:n≤c:=by omega
 have hw:IntKind.i64.wrap (n:Int)=(n:Int):=by
  rcases(by omega:n=1∨n=2∨n=3∨n=4∨n=5) with rfl|rfl|rfl|rfl|rfl<;>rfl
 go_enter func323,ntmps323;go_wp2;refine rT 14 ?_;simp only[sD,sE,sF,sG];repeat still_step
 refine wpStill_nil ?_;go_wp2;go_ret;exact⟨rfl,HX.o 1⟩
theorem EA {α:Type}{l:List α}(h:l≠[]):∃i x,l=i++[x]:=by
 rcases List.eq_nil_or_concat l with rfl|⟨i,a,rfl⟩
 ·exact absurd rfl h
 ·exact⟨i,a,by simp⟩
theorem Lh (b:Nat)(l:PLv)(h:Sat ω w (lvH b l*F))(ho:l.ok):
  Calls prog 323 #[.pointer b] w (Rets ω F (.int .i64 l.drop.1) (lvH b l.drop.2)):=by
 obtain⟨A,c,rs,hl,hx⟩:=Bu h;by_cases h1:l.rows.length=1
 ·rw[show l.drop=(10,l) by unfold PLv.drop;rw[if_pos h1]]
  have k1:=hx.assoc.blk;have c1:=k1.cell 1;have l1:=k1.lt;rw[hl,h1] at c1;have H:=h_ h;go_enter func323,ntmps323;go_wp2;go_ret;exact⟨rfl,H.o⟩
 ·rw[show l.drop=(0,{l with rows:=l.rows.dropLast}) by unfold PLv.drop;rw[if_neg h1]]
  obtain⟨most,rows⟩:=l;simp only at *
  obtain⟨hn,hf,hm,hr⟩:=ho;simp only at *
  obtain⟨ws,x,rfl⟩:=EA hn;obtain⟨rs,r,rfl⟩:=EA (l:=rs) (by intro e;subst e;simp at hl)
  simp only[List.length_append,List.length_singleton] at hl h1 hf;refine(IT ω w F b most A c rs r ws x hx (by omega) (by omega) (by omega)).mono ?_
  rintro e w' ⟨rfl,h2⟩;rw[List.dropLast_concat];refine⟨rfl,Cf (A:=A) (c:=c) (rs:=rs) (by simp only;omega) ?_⟩
  exact(h2.perm (show lvX b most A c rs ws*lvOne r x*F=lvOne r x*(lvX b most A c rs ws*F) by ac_rfl)).right
theorem Pg:(prog.info? 290).map (fun i=>(i.zero,i.size,i.bytes))=some (some (.pointer none),1,8):=by kernel_rfl
theorem SE (b:Nat)(l:PLv)(h:Sat ω w (lvH b l*F))(ho:l.ok):
  Calls prog 355 #[.pointer (some ⟨b,0,none⟩)] w (Rets ω F (.int .i64 l.open_.1) (lvH b l.open_.2)):=by
 obtain⟨A,c,rs,hl,hx⟩:=Bu h;have k1:=hx.assoc.blk;have c1:=k1.cell 1;have l1:=k1.lt;by_cases h1:6≤l.rows.length
 ·rw[show l.open_=(9,l) by unfold PLv.open_;rw[if_pos h1]]
  rw[hl,show l.rows.length=6 from Nat.le_antisymm ho.few h1] at c1
  have H:=h_ h;clear h hx k1 h1 hl ho;go_enter func355,ntmps355;go_wp2;go_ret;exact⟨rfl,H.o⟩
 ·rw[show l.open_=(0,{l with rows:=l.rows++[[]]}) by unfold PLv.open_;rw[if_neg h1]]
  obtain⟨i0,hi0,hz⟩:=Option.map_eq_some_iff.1 Pg;simp only[Prod.mk.injEq] at hz;obtain⟨hz0,hz1,hz2⟩:=hz;have HI:=h_ hi0;have HZ0:=h_ hz0;have HZ1:=h_ hz1;have HZ2:=h_ hz2;obtain⟨most,rows⟩:=l;simp only at *
  have HN:Hid (∀q,Calls prog 206 #[] (w.drewN q) (RetP ω (lvX b most A c rs rows*F) fun r=>lvOne r [])):=h_ (fun q=>IS ω _ _ (hx.drewN q))
  have HFI:Hid (∀w2 r A' c',Sat ω w2 (row 290 1 (.slice A' (rs.length+1) c') (rs.length+1) (pS rs++[pV r])*(bk b 292 #[most,.slice A' (rs.length+1) c']*(lvOne r []*(lvAll rs rows*F))))→Sat ω w2 (lvH b {most:=most,rows:=rows++[[]]}*F)):=h_ (fun w2 r A' c' h2=>by
   refine Cf (A:=A') (c:=c') (rs:=rs++[r]) (by simp[hl]) ?_
   unfold lvX;simp only[Cg rs rows r [] hl,Ld,List.length_append,List.length_singleton];exact h2.perm (by ac_rfl))
  have HOP:Hid (∀w1 r,Sat ω w1 (lvOne r []*(lvX b most A c rs rows*F))→Sat ω w1 (row 290 1 (.slice A rs.length c) rs.length (pS rs)*(bk b 292 #[most,.slice A rs.length c]*(lvOne r []*(lvAll rs rows*F))))):=h_ (fun w1 r h2=>h2.perm (by unfold lvX;ac_rfl))
  have HON:Hid (∀r,∀u∈[Value.pointer (some ⟨r,0,none⟩)],u.oneCell'=true):=h_ (by intro r u hu;simp at hu;subst hu;rfl)
  have HRD:Hid (∀(w1:World) r,Reads (w1.alloc (.cells #[.pointer (some ⟨r,0,none⟩)] 290)) (w1.heap.size+1) 1 (some ⟨w1.heap.size,0,none⟩) 1 [.pointer (some ⟨r,0,none⟩)]):=h_ (fun w1 r=>by
   have h9:=Reads.of_blk (size:=1) (n:=1) (Blk.new w1 290 #[.pointer (some ⟨r,0,none⟩)]) rfl;rw[World.size_alloc] at h9;exact h9)
  have hn6:rs.length≤5:=by omega
  rw[show(#[Value.int .i64 most,.slice A rs.length c][1]?)=some (.slice A rs.length c) from rfl] at c1
  generalize rs.length=n at *
  clear h hx k1 h1 hl ho hi0 hz0 hz1 hz2;go_enter func355,ntmps355;go_wp2;refine wp_region_any (by kernel_rfl) ?_
  try (change wpAny _ _ _ _ _ _ _ (World.drew _))
  refine tF 0 ?_ rfl ?_ (tF 1 ?_ rfl ?_ (tF 2 ?_ rfl ?_ (tF 3 ?_ rfl ?_ ?_)));all_goals (try (
   intro w;go_simp<;>(try with_reducible rfl)))
  refine rF [4,5] ?_;refine AllReady.cons rfl (fun K hK=>?_) ?_
  ·go_simp;refine hK _ _ ?_;clear hK K;refine oF 5 rfl fun K hK=>?_
   go_simp;go_at_call 206;refine(HN.o 1).mono ?_;rintro e w1 ⟨r,rfl,hx⟩;have hz9:=HOP.o _ _ hx;have k9:=hz9.right.blk;have c9:=k9.c 1;have l9:=k9.lt;have l99:b<w1.heap.size+1:=(by omega);have HS:=h_ hz9
   refine hK _ _ ?_;refine oF 6 rfl fun K hK=>?_
   go_simp;refine hK _ _ ?_;refine oF 7 rfl fun K hK=>?_
   refine BI 289 290 1 8 underlying289 HI.o HZ0.o HZ1.o HZ2.o (HS.o.junk _) (HRD.o _ _) (HON.o _) ?_;intro A' c' w2 hs;have kb:=hs.right.blk;have qf:=kb.frozen;have ql:=kb.lt;have q1:=kb.cell 1;have HY:=h_ (hs.swap.put 1 (.slice A' (n+1) c') (cs':=#[most,.slice A' (n+1) c']) rfl).swap;refine hK _ _ ?_;refine tF 8 ?_ rfl ?_ (tF 9 ?_ rfl ?_ ?_);all_goals (try (
    intro w;go_simp<;>(try with_reducible rfl)))
   refine oF 10 rfl fun K hK=>?_
   go_simp;refine hK _ _ ?_;refine dF ?_;go_wp2;go_ret;exact⟨rfl,HFI.o _ _ _ _ HY.o⟩
  refine nF rfl fun K hK=>?_
  ·go_simp;go_at_call 206;refine(HN.o 1).mono ?_;rintro e w1 ⟨r,rfl,hx⟩;have hz9:=HOP.o _ _ hx;have k9:=hz9.right.blk;have c9:=k9.c 1;have l9:=k9.lt;have l99:b<w1.heap.size+1:=(by omega);have HS:=h_ hz9
   refine hK _ _ ?_;refine rF [4,6] ?_;refine AllReady.cons rfl (fun K hK=>?_) ?_
   ·go_simp;refine hK _ _ ?_;refine oF 6 rfl fun K hK=>?_
    go_simp;refine hK _ _ ?_;refine oF 7 rfl fun K hK=>?_
    refine BI 289 290 1 8 underlying289 HI.o HZ0.o HZ1.o HZ2.o (HS.o.junk _) (HRD.o _ _) (HON.o _) ?_;intro A' c' w2 hs;have kb:=hs.right.blk;have qf:=kb.frozen;have ql:=kb.lt;have q1:=kb.cell 1;have HY:=h_ (hs.swap.put 1 (.slice A' (n+1) c') (cs':=#[most,.slice A' (n+1) c']) rfl).swap;refine hK _ _ ?_;refine tF 8 ?_ rfl ?_ (tF 9 ?_ rfl ?_ ?_);all_goals (try (
     intro w;go_simp<;>(try with_reducible rfl)))
    refine oF 10 rfl fun K hK=>?_
    go_simp;refine hK _ _ ?_;refine dF ?_;go_wp2;go_ret;exact⟨rfl,HFI.o _ _ _ _ HY.o⟩
   refine nF rfl fun K hK=>?_
   ·go_simp;refine hK _ _ ?_;refine oF 4 rfl fun K hK=>?_
    go_simp;refine hK _ _ ?_;refine oF 7 rfl fun K hK=>?_
    refine BI 289 290 1 8 underlying289 HI.o HZ0.o HZ1.o HZ2.o (HS.o.junk _) (HRD.o _ _) (HON.o _) ?_;intro A' c' w2 hs;have kb:=hs.right.blk;have qf:=kb.frozen;have ql:=kb.lt;have q1:=kb.cell 1;have HY:=h_ (hs.swap.put 1 (.slice A' (n+1) c') (cs':=#[most,.slice A' (n+1) c']) rfl).swap;refine hK _ _ ?_;refine tF 8 ?_ rfl ?_ (tF 9 ?_ rfl ?_ ?_);all_goals (try (
     intro w;go_simp<;>(try with_reducible rfl)))
    refine oF 10 rfl fun K hK=>?_
    go_simp;refine hK _ _ ?_;refine dF ?_;go_wp2;go_ret;exact⟨rfl,HFI.o _ _ _ _ HY.o⟩
end
theorem LH {ω w:World}{F:HP}{b most:Nat}{l:PWr}(h:Sat ω w (wrH b most l*F))(hl:l.length≤1000)(p:Nat):Hid (∀w1,Only Nob w w1→Calls prog 257 #[.pointer b,p] w1 fun e w'=>e=.returned (.tuple #[υ ((wGet l p).getD 0:Nat),.bool (wGet l p).isSome])∧Only Nob w w') :=
 h_ (fun w1 ho=>(TL ω w1 F b most l (h.nob ho) hl p).mono fun e w' h1=>⟨h1.1,ho.trans h1.2⟩)
theorem Tm (ω w:World)(F:HP)(b:Nat)(l:PLv)(h:Sat ω w (lvH b l*F))(ho:l.ok)(p v:Nat)(hp:p≤1000000):
  Calls prog 259 #[.pointer b,p,υ v] w (Rets ω F (.int .i64 ((l.put p v).1:Int)) (lvH b (l.put p v).2)):=by
 have H:=h_ h;by_cases h0:p<1∨256≤p
 ·rw[show l.put p v=(2,l) by unfold PLv.put;rw[if_pos h0]]
  rcases h0 with h0|h0
  ·have d:decide ((p:Int)<1)=true:=by simp;omega
   go_enter func259,ntmps259;go_wp2;go_ret;exact⟨rfl,H.o⟩
  ·have d:¬(p:Int)<1:=by omega
   go_enter func259,ntmps259;go_wp2;go_ret;exact⟨rfl,H.o⟩
 ·have g1:¬(p:Int)<1:=by omega
  have g2:¬(256:Int)≤(p:Int):=by omega
  have hnl:=List.length_pos_iff.2 ho.some_;have hn6:=ho.few;obtain⟨g,cp,r,wb,G,h1,h2,h3⟩:=CG h ho.some_;have HC:=h_ (h2 w _ _ h1);have HI:Hid (Calls prog 258 #[.pointer b] w fun e w'=>e=.returned (pV r)∧Only Nob w w'):=h_ (by
   have h9:=HC.o;rw[show l.rows.length=(l.rows.length-1)+1 by omega] at h9
   exact Lg w b _ g cp r wb h9 (by omega))
  have HG:=LH h1 (by have:=ho.in_.1;omega) p
  have HR:Hid (∀w1,Only Nob w w1→Calls prog 324 #[.pointer b] w1 fun e w'=>e=.returned l.room∧Only Nob w w'):=h_ (fun w1 h9=>(SD ω w1 F b l (h.nob h9) ho).mono fun e w' h8=>⟨h8.1,h9.trans h8.2⟩)
  have HP:Hid (∀w1,Only Nob w w1→Calls prog 222 #[.pointer wb,p,υ v] w1 (WrPost ω (bk r 296 #[pV wb,.slice none 0 0]*(G*F)) wb 96 (wPut 96 l.inmost p v))):=h_ (fun w1 h9=>OL ω w1 _ wb 96 l.inmost (h1.nob h9) (by have:=ho.in_.1;omega) (by omega) p v hp)
  have HCC:Hid (∀w1,Only Nob w w1→w1.cell? r=some (.pointer wb)∧r<w1.heap.size):=h_ (fun w1 h9=>⟨((HC.o).nob h9).cells,((HC.o).nob h9).lr⟩)
  have HQ:Hid (l.put p v=if(wGet l.inmost p).isNone∧l.room=0 then(5,l) else((wPut 96 l.inmost p v).1,l.setIn (wPut 96 l.inmost p v).2)):=h_ (by unfold PLv.put;rw[if_neg h0])
  have HFI:Hid (∀w1 e,WrPost ω (bk r 296 #[pV wb,.slice none 0 0]*(G*F)) wb 96 (wPut 96 l.inmost p v) e w1→e=.returned (.int .i64 ((wPut 96 l.inmost p v).1:Int))∧Sat ω w1 (lvH b (l.setIn (wPut 96 l.inmost p v).2)*F)):=h_ (fun w1 e h9=>⟨h9.1,h3 _ _ _ h9.2⟩)
  generalize l.put p v=R at *
  generalize wPut 96 l.inmost p v=T at *
  generalize wGet l.inmost p=o at *
  generalize l.room=m at *
  unfold pV at HI;cases o with
  |some y =>
   have HE:Hid (R=(T.1,l.setIn T.2)):=h_ (by rw[HQ.o,if_neg (by simp)])
   rw[HE.o];simp only[Option.getD_some,Option.isSome_some] at HG;go_enter func259,ntmps259;go_wp2_with (first
    |(go_at_call 258;refine(HI.o).mono ?_;rintro e w1 ⟨rfl,ho1⟩;obtain⟨d1,d2⟩:=HCC.o _ ho1;have HO1:=h_ ho1)
    |(go_at_call 257;refine(HG.o _ HO1.o).mono ?_;rintro e w2 ⟨rfl,ho2⟩;have HO2:=h_ ho2)
    |(go_at_call 222;refine(HP.o _ HO2.o).mono ?_;rintro e w3 hx;obtain⟨rfl,hy⟩:=HFI.o _ _ hx;have HS:=h_ hy))
   go_ret;exact⟨rfl,HS.o⟩
  |none =>
   simp only[Option.getD_none,Option.isSome_none] at HG;by_cases hm:m=0
   ·have HE:Hid (R=(5,l)):=h_ (by rw[HQ.o,if_pos (by simp[hm])])
    rw[HE.o];rw[hm] at HR;go_enter func259,ntmps259;go_wp2_with (first
     |(go_at_call 258;refine(HI.o).mono ?_;rintro e w1 ⟨rfl,ho1⟩;obtain⟨d1,d2⟩:=HCC.o _ ho1;have HO1:=h_ ho1)
     |(go_at_call 257;refine(HG.o _ HO1.o).mono ?_;rintro e w2 ⟨rfl,ho2⟩;have HO2:=h_ ho2)
     |(go_at_call 324;refine(HR.o _ HO2.o).mono ?_;rintro e w3 ⟨rfl,ho3⟩;have HS:=h_ (H.o.nob ho3)))
    go_ret;exact⟨rfl,HS.o⟩
   ·have HE:Hid (R=(T.1,l.setIn T.2)):=h_ (by rw[HQ.o,if_neg (by simp[hm])])
    have d:(m==0)=false:=by simpa using hm
    rw[HE.o];go_enter func259,ntmps259;go_wp2_with (first
     |(go_at_call 258;refine(HI.o).mono ?_;rintro e w1 ⟨rfl,ho1⟩;obtain⟨d1,d2⟩:=HCC.o _ ho1;have HO1:=h_ ho1)
     |(go_at_call 257;refine(HG.o _ HO1.o).mono ?_;rintro e w2 ⟨rfl,ho2⟩;have HO2:=h_ ho2)
     |(go_at_call 324;refine(HR.o _ HO2.o).mono ?_;rintro e w3 ⟨rfl,ho3⟩;have HO3:=h_ ho3)
     |(go_at_call 222;refine(HP.o _ HO3.o).mono ?_;rintro e w4 hx;obtain⟨rfl,hy⟩:=HFI.o _ _ hx;have HS:=h_ hy))
    go_ret;exact⟨rfl,HS.o⟩
theorem PLv.ok.drop {l:PLv}(h:l.ok)(h1:l.rows.length≠1):l.drop.2.ok:=by
 unfold PLv.drop;rw[if_neg h1];have h2:=List.length_pos_iff.2 h.some_;have h3:=h.few;refine⟨?_,?_,h.most,fun r hr=>h.rows r (List.dropLast_subset _ hr)⟩
 ·intro e
  have:=congrArg List.length e
  simp at this;omega
 ·simp;omega
theorem SF (ω w:World)(F:HP)(b:Nat)(l:PLv)(h:Sat ω w (lvH b l*F))(ho:l.ok):
  Calls prog 321 #[.pointer b] w (Rets ω F (.int .i64 l.keep.1) (lvH b l.keep.2)):=by
 have H:=h_ h;have hnl:=List.length_pos_iff.2 ho.some_;have hn6:=ho.few;obtain⟨g,cp,r,wb,G,h1,h2,h3⟩:=CG h ho.some_;have HC:=h_ (h2 w _ _ h1);by_cases hone:l.rows.length=1
 ·have HI:Hid (Calls prog 258 #[.pointer b] w fun e w'=>e=.returned (pV r)∧Only Nob w w'):=h_ (by
   have h9:=HC.o;rw[show l.rows.length=(l.rows.length-1)+1 by omega] at h9
   exact Lg w b _ g cp r wb h9 (by omega))
  unfold pV at HI;have HD:Hid (∀w1,Only Nob w w1→Calls prog 323 #[.pointer b] w1 (Rets ω F (.int .i64 10) (lvH b l))):=h_ (fun w1 h9=>by
   have h8:=Lh ω w1 F b l (h.nob h9) ho;rw[show l.drop=(10,l) by unfold PLv.drop;rw[if_pos hone]] at h8
   exact h8)
  rw[show l.keep=(10,l) by unfold PLv.keep PLv.drop;rw[if_pos hone];rfl]
  go_enter func321,ntmps321;go_wp2_with (first
   |(go_at_call 258;refine(HI.o).mono ?_;rintro e w1 ⟨rfl,ho1⟩;have HO1:=h_ ho1)
   |(go_at_call 323;refine(HD.o _ HO1.o).mono ?_;rintro e w2 ⟨rfl,hx⟩;have HS:=h_ hx))
  go_ret;exact⟨rfl,HS.o⟩
 ·clear h1 h2 h3 HC r wb G g cp;obtain⟨A,c,rs,hl,hx⟩:=Bu h;have hx0:∃(ws:List PWr) (x:PWr),l.rows=ws++[x]:=EA ho.some_;obtain⟨ws,x,hws⟩:=hx0;obtain⟨rs,r,rfl⟩:=EA (l:=rs) (by intro e;subst e;simp at hl;omega)
  have hlen:rs.length=ws.length∧1≤rs.length∧rs.length≤5:=by
   rw[hws] at hl hone hn6;simp only[List.length_append,List.length_singleton] at hl hone hn6;omega
  rw[hws] at hx;have hin:l.inmost=x:=by
   unfold PLv.inmost;rw[hws];simp
  have hdr:l.drop=(0,{l with rows:=ws}):=by
   unfold PLv.drop;rw[if_neg hone,hws,List.dropLast_concat]
  have hok2:=ho.drop hone;rw[hdr] at hok2;simp only at hok2;have hxl:=ho.in_;rw[hin] at hxl;have HI:Hid (∃g' cp' wb',LvC w b (rs.length+1) rs.length g' cp' r wb'):=h_ (by
   obtain⟨g,cp,r',wb,G,h1,h2,_⟩:=CG h ho.some_;have h9:=h2 w _ _ h1;have hA:Sat ω w (bk b 292 #[l.most,.slice A (rs++[r]).length c]*(row 290 1 (.slice A (rs++[r]).length c) (rs++[r]).length (pS (rs++[r]))*(lvAll (rs++[r]) (ws++[x])*F))):=by
    unfold lvX at hx;exact hx.perm (by ac_rfl)
   obtain⟨g2,rfl,_,hc2⟩:=hA.right.rowAt (l:=rs++[r]) (f:=fun b=>[pV b]) (fun _=>rfl) 0 (i:=rs.length) (by simp)
   have e1:=h9.rows;have e2:=hA.blk.cell 1;have e3:some (Value.slice (some ⟨g,0,none⟩) l.rows.length cp)=some (Value.slice (some ⟨g2,0,none⟩) (rs++[r]).length c):=e1.symm.trans e2;injection e3 with e3
   injection e3 with e3 _ _
   injection e3 with e3
   injection e3 with e3
   subst e3;have e4:=hc2 0 (by omega)
   rw[Nat.mul_one,Nat.add_zero] at e4;have e5:=h9.last;have e6:l.rows.length=rs.length+1:=by rw[hws];simp;omega
   rw[e6,Nat.add_sub_cancel] at e5 h9;rw[e5] at e4;simp only[gD,List.getElem?_append_right (Nat.le_refl _),Nat.sub_self,List.getElem?_cons_zero,Option.getD_some,pV,Option.some.injEq,Value.pointer.injEq,Addr.mk.injEq,and_true] at e4;subst e4;exact⟨g,cp,wb,h9⟩)
  obtain⟨g1,cp1,wb1,HI⟩:=HI.o;have HIN:Hid (Calls prog 258 #[.pointer (some ⟨b,0,none⟩)] w fun e w'=>e=.returned (pV r)∧Only Nob w w'):=h_ (Lg w b _ g1 cp1 r wb1 HI (by omega))
  have HD:Hid (∀w1,Only Nob w w1→Calls prog 323 #[.pointer b] w1 (Rets ω F (.int .i64 0) (lvX b l.most A c rs ws*lvOne r x))):=h_ (fun w1 h9=>IT ω w1 F b l.most A c rs r ws x (hx.nob h9) hlen.1 hlen.2.1 hlen.2.2)
  have HB:Hid (∀w2,Sat ω w2 (lvX b l.most A c rs ws*lvOne r x*F)→∃g cp r2 wb G wx,r<w2.heap.size∧w2.cell? r=some (pV wx)∧w2.cell? (κ r 1)=some (.slice none 0 0) ∧
    LvC w2 b ws.length (ws.length-1) g cp r2 wb∧(∀j,w2.frozen? (κ r2 j)=false) ∧
    (∀w3,Only Nob w2 w3→Sat ω (w3.setCell (κ r2 1) (.slice none 0 0)) (wrH wx 96 x*(wrH wb 96 (ws.getLastD [])*(bk r2 296 #[pV wb,.slice none 0 0]*(bk r 296 #[pV wx,.slice none 0 0]*(G*F)))))) ∧
    (∀w4 y P,Sat ω w4 (P*(wrH wx 96 x*(wrH wb 96 y*(bk r2 296 #[pV wb,.slice none 0 0]*(bk r 296 #[pV wx,.slice none 0 0]*(G*F))))))→Sat ω w4 (lvH b (PLv.setIn {l with rows:=ws} y)*F))):=h_ (fun w2 h9=>by
   have h8:Sat ω w2 (lvOne r x*(lvX b l.most A c rs ws*F)):=h9.perm (by ac_rfl)
   obtain⟨wx,h7⟩:=h8.of_ex;have h6:Sat ω w2 (lvH b {l with rows:=ws}*(bk r 296 #[pV wx,.slice none 0 0]*(wrH wx 96 x*F))):=Cf (l:={l with rows:=ws}) (A:=A) (c:=c) (rs:=rs) hlen.1 (h7.perm (by ac_rfl))
   obtain⟨g,cp,r2,wb,G,k1,k2,k3⟩:=CG h6 hok2.some_;refine⟨g,cp,r2,wb,G,wx,h7.assoc.blk.lt,h7.assoc.blk.cell 0,h7.assoc.blk.cell 1,k2 _ _ _ k1,k1.right.blk.frozen,?_,?_⟩
   ·intro w3 h10;have h11:=(k1.nob h10).swap.put 1 (.slice none 0 0) (cs':=#[pV wb,.slice none 0 0]) rfl;exact h11.perm (by unfold PLv.inmost;simp only;ac_rfl)
   ·intro w4 y P h12;have h13:Sat ω w4 (wrH wb 96 y*(bk r2 296 #[pV wb,.slice none 0 0]*(G*(P*(bk r 296 #[pV wx,.slice none 0 0]*(wrH wx 96 x*F)))))):=h12.perm (by ac_rfl)
    have h14:=k3 w4 y _ h13;exact(h14.perm (show lvH b (PLv.setIn {l with rows:=ws} y)*(P*(bk r 296 #[pV wx,.slice none 0 0]*(wrH wx 96 x*F)))=(P*(bk r 296 #[pV wx,.slice none 0 0]*wrH wx 96 x))*(lvH b (PLv.setIn {l with rows:=ws} y)*F) by ac_rfl)).right)
  have hwx:=ho.rows x (by rw[hws];simp)
  have hyl:(ws.getLastD []).length≤96:=by
   have:=hok2.in_.1
   unfold PLv.inmost at this;exact this
  have hKE:Hid (l.keep=((wTake 96 (ws.getLastD []) x).1,PLv.setIn {l with rows:=ws} (wTake 96 (ws.getLastD []) x).2)):=h_ (by
   unfold PLv.keep;simp only[hdr,hin];rfl)
  rw[hKE.out];have HALL:=h_ (fun w3 wx F (h9:Sat ω w3 (wrH wx 96 x*F))=>JW ω w3 F wx 96 x h9 (by omega))
  have HTK:=h_ (fun w3 wb A c F (h9:Sat ω w3 (wrH wb 96 (ws.getLastD [])*(row 54 2 (.slice A x.length c) x.length (vS x)*F)))=>GJ ω w3 F wb 96 (ws.getLastD []) x A c h9 (by omega) (by omega) (by omega) hwx.2)
  have HIN2:=h_ (fun w2 g cp r2 wb (h9:LvC w2 b ws.length (ws.length-1) g cp r2 wb)=>Lg w2 b (ws.length-1) g cp r2 wb (by rw[show ws.length-1+1=ws.length by omega];exact h9) (by omega))
  generalize wTake 96 (ws.getLastD []) x=T at *
  generalize ws.getLastD []=y at *
  generalize ws.length=N at *
  unfold pV at HIN HIN2;unfold PLv.setIn at *
  generalize x.length=xn at *
  go_enter func321,ntmps321;go_wp2_with (first
   |(go_at_call 258;refine(HIN.o).mono ?_;rintro e w1 ⟨rfl,ho1⟩;have HO1:=h_ ho1)
   |(go_at_call 323;refine(HD.o _ HO1.o).mono ?_;rintro e w2 ⟨rfl,hx⟩;obtain⟨g,cp,r2,wb,G,wx,b1,b2,b3,b4,b5,b6,b7⟩:=HB.o _ hx;have HIN3:=h_ (HIN2.o _ _ _ _ _ b4);have B4:=h_ b4;have HS6:=h_ b6;have HS7:=h_ b7)
   |(go_at_call 258;refine(HIN3.o).mono ?_;rintro e w3 ⟨rfl,ho3⟩;have HO3:=h_ ho3;obtain⟨e1,e2,e3,e4,e5,e6,e7⟩:=B4.out.nob ho3;have a1:=(ho3.cell (p:=⟨r,0,none⟩) b1 (fun e=>e)).trans b2;have a2:=(ho3.cell (p:=⟨r,1,none⟩) b1 (fun e=>e)).trans b3;have a3:r<w3.heap.size:=Nat.lt_of_lt_of_le b1 ho3.size;have a4:∀j,w3.frozen? (κ r2 j)=false:=fun j=>(ho3.frozen (p:=⟨r2,j,none⟩) (B4.out.lr) (fun e=>e)).trans (b5 j)))
  have HW:=h_ (HS6.o _ HO3.o);unfold pV at *
  refine rT 12 ?_;simp only[sD,sE,sF,sG];repeat still_step
  refine wpStill_nil ?_;go_wp2;generalize w3.setCell (κ r2 1) (.slice none 0 0)=wz at *
  have v1:=HW.o.right.right.blk;have v2:=HW.o.right.right.right.blk;have z1:wz.cell? (κ r2 0)=some (.pointer (some ⟨wb,0,none⟩)):=v1.cell 0;have z2:wz.cell? r=some (.pointer (some ⟨wx,0,none⟩)):=v2.cell 0;have z3:=v1.lt;have z4:=v2.lt;refine wp_region_any (by kernel_rfl) ?_
  try (change wpAny _ _ _ _ _ _ _ (World.drew _))
  refine tF 0 ?_ rfl ?_ (tF 4 ?_ rfl ?_ (tF 1 ?_ rfl ?_ (tF 5 ?_ rfl ?_ (tF 2 ?_ rfl ?_ (tF 6 ?_ rfl ?_ ?_)))));all_goals (try (
   intro w;go_simp<;>(try with_reducible rfl)))
  refine rF [3,7] ?_;refine AllReady.cons rfl (fun K hK=>?_) ?_
  ·go_simp;refine hK _ _ ?_;refine oF 7 rfl fun K hK=>?_
   go_simp;refine hK _ _ ?_;refine oF 8 rfl fun K hK=>?_
   go_simp;go_at_call 191;refine(HALL.o _ _ _ HW.o.drew.drew).mono ?_;rintro e w5 ⟨A5,c5,rfl,hx⟩;have v1:=hx.right.right.right.blk;have y1:w5.cell? r2=some (.pointer wb):=v1.cell 0;have y3:=v1.lt;have HS:=h_ (hx.perm (show _=wrH wb 96 y*(row 54 2 (.slice A5 xn c5) xn (vS x)*(wrH wx 96 x*(bk r2 296 #[.pointer wb,.slice none 0 0]*(bk r 296 #[.pointer wx,.slice none 0 0]*(G*F))))) by ac_rfl))
   refine hK _ _ ?_;refine oF 9 rfl fun K hK=>?_
   go_simp;go_at_call 190;refine(HTK.o _ _ _ _ _ HS.o).mono ?_;rintro e w6 ⟨rfl,hx⟩;have HZ:=h_ (HS7.o w6 T.2 (row 54 2 (.slice A5 xn c5) xn (vS x)) (hx.perm (by ac_rfl)))
   refine hK _ _ ?_;refine tF 10 ?_ rfl ?_ ?_;all_goals (try (
    intro w;go_simp<;>(try with_reducible rfl)))
   refine dF ?_;go_wp2;go_ret;exact⟨rfl,HZ.o⟩
  refine nF rfl fun K hK=>?_
  ·go_simp;refine hK _ _ ?_;refine rF [3,8] ?_;refine AllReady.cons rfl (fun K hK=>?_) ?_
   ·go_simp;refine hK _ _ ?_;refine oF 8 rfl fun K hK=>?_
    go_simp;go_at_call 191;refine(HALL.o _ _ _ HW.o.drew.drew).mono ?_;rintro e w5 ⟨A5,c5,rfl,hx⟩;have v1:=hx.right.right.right.blk;have y1:w5.cell? r2=some (.pointer wb):=v1.cell 0;have y3:=v1.lt;have HS:=h_ (hx.perm (show _=wrH wb 96 y*(row 54 2 (.slice A5 xn c5) xn (vS x)*(wrH wx 96 x*(bk r2 296 #[.pointer wb,.slice none 0 0]*(bk r 296 #[.pointer wx,.slice none 0 0]*(G*F))))) by ac_rfl))
    refine hK _ _ ?_;refine oF 9 rfl fun K hK=>?_
    go_simp;go_at_call 190;refine(HTK.o _ _ _ _ _ HS.o).mono ?_;rintro e w6 ⟨rfl,hx⟩;have HZ:=h_ (HS7.o w6 T.2 (row 54 2 (.slice A5 xn c5) xn (vS x)) (hx.perm (by ac_rfl)))
    refine hK _ _ ?_;refine tF 10 ?_ rfl ?_ ?_;all_goals (try (
     intro w;go_simp<;>(try with_reducible rfl)))
    refine dF ?_;go_wp2;go_ret;exact⟨rfl,HZ.o⟩
   refine nF rfl fun K hK=>?_
   ·go_simp;go_at_call 191;refine(HALL.o _ _ _ HW.o.drew.drew).mono ?_;rintro e w5 ⟨A5,c5,rfl,hx⟩;have v1:=hx.right.right.right.blk;have y1:w5.cell? r2=some (.pointer wb):=v1.cell 0;have y3:=v1.lt;have HS:=h_ (hx.perm (show _=wrH wb 96 y*(row 54 2 (.slice A5 xn c5) xn (vS x)*(wrH wx 96 x*(bk r2 296 #[.pointer wb,.slice none 0 0]*(bk r 296 #[.pointer wx,.slice none 0 0]*(G*F))))) by ac_rfl))
    refine hK _ _ ?_;refine oF 3 rfl fun K hK=>?_
    go_simp;refine hK _ _ ?_;refine oF 9 rfl fun K hK=>?_
    go_simp;go_at_call 190;refine(HTK.o _ _ _ _ _ HS.o).mono ?_;rintro e w6 ⟨rfl,hx⟩;have HZ:=h_ (HS7.o w6 T.2 (row 54 2 (.slice A5 xn c5) xn (vS x)) (hx.perm (by ac_rfl)))
    refine hK _ _ ?_;refine tF 10 ?_ rfl ?_ ?_;all_goals (try (
     intro w;go_simp<;>(try with_reducible rfl)))
    refine dF ?_;go_wp2;go_ret;exact⟨rfl,HZ.o⟩
section
open Go.RowKit Go.Shelf
attribute [local go_sem] Oper.semAt_some
def bo (b:Nat)(o:Obj):HP:=fun h=>h=fun k=>if k=b then some o else none
section
variable {ω w : World} {F : HP}
theorem Sat.getO {b:Nat}{o:Obj}(h:Sat ω w (bo b o*F)):w.heap[b]?=some o:=by
 obtain⟨x,hx,rfl⟩:=h.left.part;exact hx b _ (by simp)
theorem Sat.newO (h:Sat ω w F)(o:Obj):Sat ω (w.alloc o) (bo w.heap.size o*F):=by
 obtain⟨x,hx,hp⟩:=h.part;refine⟨h.os,h.tape,h.output,_,fun k o' hk=>?_,_,x,fun k=>?_,rfl,rfl,hp⟩
 ·by_cases e:k=w.heap.size
  ·subst e;simp at hk;rw[←hk];exact heap_alloc_new w _
  ·simp[e] at hk;have h9:=hx k o' hk;rw[Below.heap_alloc w _ k (Array.getElem?_eq_some_iff.1 h9).1];exact h9
 ·by_cases e:k=w.heap.size
  ·right;subst e;cases hk:x w.heap.size with
   |none=>rfl
   |some o =>
    have:=(Array.getElem?_eq_some_iff.1 (hx _ _ hk)).1
    omega
  ·left;simp[e]
theorem Sat.putO {b:Nat}{o:Obj}(h:Sat ω w (bo b o*F))(o':Obj):Sat ω (w.putObj b o') (bo b o'*F):=by
 have hb:=h.getO;have hlt:=(Array.getElem?_eq_some_iff.1 hb).1;obtain⟨x,hx,a,y,hd,rfl,rfl,hf⟩:=h.part;refine⟨h.os,h.tape,h.output,_,fun k o2 hk=>?_,_,y,fun k=>?_,rfl,rfl,hf⟩
 ·by_cases e:k=b
  ·subst e;simp at hk;rw[←hk];exact World.putObj_heap_same hlt
  ·simp[e] at hk;rw[World.putObj_heap_other e];exact hx k o2 (by simp[e,hk])
 ·have:=hd k
  by_cases e:k=b
  ·right;simp[e] at this;rw[e];exact this
  ·left;simp[e]
end
structure BackC (W:World) (B:Nat) (g cp:Nat) (rs:List Nat):Prop where
 box:W.cell? B=some (.slice (some ⟨g,0,none⟩) rs.length cp)
 lB:B<W.heap.size
 lg:g<W.heap.size
 at_:∀i,i<rs.length→W.cell? (κ g i)=some (.pointer (some ⟨rs.getD i 0,0,none⟩))
theorem Sw (ω:World)(n:Nat)(hn:1≤n)(l B g cp:Nat)(rs:List Nat)(h6:rs.length≤1000)(J Jx:Nat→HP)
  (hC:∀k W,Sat ω W (J k)→BackC W B g cp rs)
  (hY:∀k W,k<rs.length→Sat ω W (J k)→YieldAt Fence.wide (n-1) prog l #[(rs.length-1-k:Nat),.pointer (some ⟨rs.getD (rs.length-1-k) 0,0,none⟩)] W fun e W' =>
   (e=.returned (.bool true)∧Sat ω W' (J (k+1)))∨(e=.returned (.bool false)∧Sat ω W' (Jx (k+1))))
  (W:World) (h0:Sat ω W (J 0)):
  CallsIn Fence.wide n prog 221 #[.func (.yield l) #[] #[],.pointer B] W fun e W'=>(∃v,e=.returned v) ∧
   (Sat ω W' (J rs.length)∨(∃k,k≤rs.length∧Sat ω W' (Jx k))):=by
 obtain⟨N,hN⟩:∃N,rs.length=N:=⟨_,rfl⟩;refine callsIn_of_wp func221 rfl trivial ?_ rfl;simp only[ntmps221,List.size_toArray,List.length_cons,List.length_nil,Nat.reduceAdd,Nat.reduceSub,Array.replicate_succ,Array.replicate_zero,List.push_toArray,List.append_toArray,List.nil_append,List.cons_append];have HCC:Hid (∀k W,Sat ω W (J k)→W.cell? B=some (.slice (some ⟨g,0,none⟩) N cp)∧B<W.heap.size∧g<W.heap.size∧∀i,i<N→W.cell? (κ g i)=some (.pointer (some ⟨rs.getD i 0,0,none⟩))):=h_ (fun k W h=>by
  have h9:=hC k W h;have h8:=h9.box;rw[hN] at h8;exact⟨h8,h9.lB,h9.lg,fun i hi=>h9.at_ i (by omega)⟩)
 obtain⟨c1,c2,c3,c4⟩:=HCC.o 0 W h0;have HY:=h_ hY;have H0:=h_ h0;rw[hN] at HY h6 ⊢
 gi_wp2
 gi_loopw [3] (fun i wr=>∃k:Nat,k≤N∧i=.int .i64 ((N:Int)-1-(k:Int))∧Sat ω wr (J k)) (fun i _=>(intOf i+1).toNat)
 case atStart=>exact⟨0,by omega,by congr 1;first|go_num|(simp;go_num)|(rw[IntKind.wrap_i64];omega),H0.o⟩
 case round =>
  obtain⟨k,hk,rfl,hJ⟩:=hrel;obtain⟨c1,c2,c3,c4⟩:=HCC.o _ _ hJ;by_cases hlt:k<N
  ·have c5:=c4 (N-1-k) (by omega)
   obtain⟨fn,tmps,assign,body,hy,hR⟩:=HY.o k wr hlt hJ;have ei:(N:Int)-1-(k:Int)=((N-1-k:Nat):Int):=by omega
   obtain⟨j,hj⟩:∃j,N-1-k=j:=⟨_,rfl⟩;have hjN:j<N:=by omega
   rw[hj] at ei c5 hy;obtain⟨r,hr⟩:∃r,rs.getD j 0=r:=⟨_,rfl⟩;rw[hr] at c5 hy;rw[ei];clear c4 hJ
   gi_wp2
   refine hR.mono ?_;rintro e W3 (⟨rfl,hJ3⟩|⟨rfl,hJx3⟩)
   ·have HJ3:=h_ hJ3
    gi_wp2
    go_roundw
    case rel=>exact⟨k+1,by omega,by congr 1;omega,HJ3.o⟩
    case measure=>simp[intOf]
   ·gi_wp2
    refine bodyPost_ret (results_none rfl _ _ _) rfl ?_;exact⟨⟨_,rfl⟩,.inr ⟨k+1,by omega,hJx3⟩⟩
  ·have hkN:k=N:=by omega
   have ei:(N:Int)-1-(k:Int) = -1:=by omega
   rw[ei];have HE:Hid (Sat ω wr (J N)):=h_ (hkN▸hJ)
   gi_wp2
   go_end0;exact⟨⟨_,rfl⟩,.inl HE.o⟩
def rangePostS (ω:World)(I Ix:HP):Exit→Act→World→Prop
 | .normal,_,W'=>Sat ω W' I
 | .ret,_,W'=>Sat ω W' Ix
 |_,_,_=>False
theorem Bm {ω:World}{n:Nat}{gop:Operand}{ps:Array Tmp}{assign body:Code}{Q:Exit→Act→World→Prop}{a:Act}{w:World}{B g cp:Nat}{rs:List Nat}(h1:2≤n)(h6:rs.length≤1000)
  (hg:a.eval gop=.func (.func 221) #[] #[.pointer B]) (hps:ps.size=2)
  (I Ix:Nat→HP) (hC:∀k W P,Sat ω W (P*I k)→BackC W B g cp rs) (h0:Sat ω w (I 0)) (a₁:Nat→Act)
  (hassign:∀(l k:Nat) (W:World) (K:Act→World→Prop),k<rs.length→K (a₁ k) W →
   assign.wpIn (Fence.wide.inRound l) (n-1-1) prog (Exit.then K (fun _ _ _=>False)) {tmps:=(ps.zip #[.int .i64 ((rs.length-1-k:Nat):Int),.pointer (some ⟨rs.getD (rs.length-1-k) 0,0,none⟩)]).foldl (fun t (p,v)=>t.setIfInBounds p v) a.tmps,defers:=[]} W)
  (hbody:∀(l k:Nat) (W:World) (L:HP),k<rs.length→Sat ω W (L*I k)→body.wpIn (Fence.wide.inRound l) (n-1-1) prog (rangePostS ω (L*I (k+1)) (L*Ix (k+1))) (a₁ k) W)
  (hdone:∀(D:Nat) (W:World),Sat ω W (bo D (.deferred (some []))*I rs.length)→Q .normal {a with defers:={target:=.collected D,args:=#[]}::a.defers} W)
  (hstop:∀(D k:Nat) (W:World),k≤rs.length→Sat ω W (bo D (.deferred (some []))*Ix k)→Code.ret.wpIn Fence.wide n prog Q {a with defers:={target:=.collected D,args:=#[]}::a.defers} W):
  (Code.rangeFunc gop ps assign body).wpIn Fence.wide n prog Q a w:=by
 refine wpIn_rangeFunc ?_;intro fn hfn;obtain⟨rec,hrec⟩:∃rec:LoopState→Option Code→Loop,rec=fun st pe=>{state:=st,pending:=pe,fn,tmps:=a.tmps,params:=ps,assign,body,defers:=w.heap.size}:=⟨_,rfl⟩
 obtain⟨W1,hW1⟩:∃W1,(w.alloc (.deferred (some []))).alloc (.loop (rec .ready none))=W1:=⟨_,rfl⟩;have hJ0:Sat ω W1 (bo (w.heap.size+1) (.loop (rec .ready none))*(bo w.heap.size (.deferred (some []))*I 0)):=by
  rw[←hW1];have h9:=(h0.newO (.deferred (some []))).newO (.loop (rec .ready none));rw[World.size_alloc] at h9;exact h9
 refine⟨w.heap.size+1,[{target:=.collected w.heap.size,args:=#[]}],W1,{target:=.fn (.func 221) #[.pointer B],args:=#[.func (.yield (w.heap.size+1)) #[] #[]]},W1,221,
  #[.func (.yield (w.heap.size+1)) #[] #[],.pointer B],W1,?_,?_,?_,?_,fun _=>by omega,?_⟩
 ·rw[←hW1,hrec];exact run_enterLoop_outer _ _ _ _ _
 ·simp only[resolve,hg];simp[go_sem]
 ·intro f' hf';exact trivial
 ·have eg:∀args w,(callFunc 221 args).run prog w=.ok (.enter 221 args) w:=enters_of func221 (by kernel_rfl) rfl
  simp[invoke,go_sem,eg]
 ·refine(Sw ω (n-1) (by omega) (w.heap.size+1) B g cp rs h6
   (fun k=>bo (w.heap.size+1) (.loop (rec .ready none))*(bo w.heap.size (.deferred (some []))*I k))
   (fun k=>bo (w.heap.size+1) (.loop (rec .done (some .ret)))*(bo w.heap.size (.deferred (some []))*Ix k))
   ?_ ?_ W1 hJ0).mono ?_
  ·intro k W hk;exact hC k W _ hk.assoc'
  ·rintro k W hk hJ;have hl:=hJ.getO;have hy:=run_yield (P:=prog) (args:=#[.int .i64 ((rs.length-1-k:Nat):Int),.pointer (some ⟨rs.getD (rs.length-1-k) 0,0,none⟩)]) hl (by rw[hrec];exact hps.symm)
   rw[hrec] at hy;refine⟨fn,_,assign,body,hy,roundIn_of_wpIn hfn (hassign _ k W _ hk ?_)⟩;refine⟨_,run_beginRound hl (by rw[hrec]),?_⟩
   have hJ2:=(hJ.putO (.loop {rec .ready none with state:=.busy})).assoc'
   refine wpIn_mono (hbody _ k _ _ hk hJ2) ?_;rintro e a3 W3 hp;cases e with
   |normal =>
    have h3:Sat ω W3 _:=Sat.assoc hp;have h4:=run_endRound (P:=prog) none h3.getO;have h5:=h3.putO (.loop (rec .ready none));rw[hrec] at h4 h5 ⊢;exact⟨_,_,h4,.inl ⟨rfl,h5⟩⟩
   |ret =>
    have h3:Sat ω W3 _:=Sat.assoc hp;have h4:=run_endRound (P:=prog) (some .ret) h3.getO;have h5:=h3.putO (.loop (rec .done (some .ret)));rw[hrec] at h4 h5 ⊢;exact⟨_,_,h4,.inr ⟨rfl,h5⟩⟩
   |exit id=>exact hp.elim
   |goto t=>exact hp.elim
   |panic ch=>exact hp.elim
   |outgrown=>exact hp.elim
  ·rintro e W2 ⟨⟨v,rfl⟩,(hJ|⟨k,hk,hJ⟩)⟩
   ·have h4:=run_endLoop (P:=prog) hJ.getO (by rw[hrec];simp)
    have h5:=(hJ.putO (.loop {rec .ready none with state:=.exhausted})).right
    rw[hrec] at h4 h5;exact⟨none,_,h4,hdone _ _ h5⟩
   ·have h4:=run_endLoop (P:=prog) hJ.getO (by rw[hrec];simp)
    have h5:=(hJ.putO (.loop {rec .done (some .ret) with state:=.exhausted})).right
    rw[hrec] at h4 h5;exact⟨some .ret,_,h4,hstop _ k _ hk h5⟩
end
section
open Go.RowKit Go.Shelf
attribute [local go_sem] Oper.semAt_some
theorem DH (w:World)(v:Value)(hv:∃A n c,v=.slice A n c):Calls prog 188 #[v] w fun e w' =>
  e=.returned (.func (.func 221) #[] #[.pointer w.heap.size])∧w'=w.alloc (.cells #[v] 289):=by
 obtain⟨A,n,c,rfl⟩:=hv;go_enter func188,ntmps188;go_wp2;go_ret;exact⟨rfl,rfl⟩
theorem Ex (rows:List PWr)(p:Nat):∀k,k≤rows.length→(∀j,j<k→wGet (rows.getD (rows.length-1-j) []) p=none)→PLv.getF rows.reverse p=PLv.getF (rows.reverse.drop k) p
 |0,_,_=>rfl
 |k+1,hk,h=>by
  rw[Ex rows p k (by omega) (fun j hj=>h j (by omega))]
  have hlt:k<rows.reverse.length:=by rw[List.length_reverse];omega
  rw[List.drop_eq_getElem_cons hlt,PLv.getF];have h1:=h k (by omega)
  rw[gD,List.getElem?_eq_getElem (by omega)] at h1
  rw[List.getElem_reverse];simp only[Option.getD_some] at h1;rw[h1];rfl
theorem Pq (rows:List PWr)(p v k:Nat)(hk:k<rows.length)(h:∀j,j<k→wGet (rows.getD (rows.length-1-j) []) p=none)(hv:wGet (rows.getD (rows.length-1-k) []) p=some v):PLv.getF rows.reverse p=some v:=by
 rw[Ex rows p k (by omega) h]
 have hlt:k<rows.reverse.length:=by rw[List.length_reverse];omega
 rw[List.drop_eq_getElem_cons hlt,PLv.getF,List.getElem_reverse];rw[gD,List.getElem?_eq_getElem (by omega)] at hv
 simp only[Option.getD_some] at hv;rw[hv];rfl
theorem Nf (rows:List PWr)(p:Nat)(h:∀j,j<rows.length→wGet (rows.getD (rows.length-1-j) []) p=none):PLv.getF rows.reverse p=none:=by
 rw[Ex rows p rows.length (Nat.le_refl _) h,List.drop_eq_nil_of_le (by rw[List.length_reverse];exact Nat.le_refl _)]
 rfl
def getH (S p x:Nat)(t:Bool)(X:HP):HP:=bk S 3 #[p]*(bk (S+1) 22 #[υ x]*(bk (S+1+1) 4 #[.bool t]*X))
def getX (S b most g c:Nat)(rs:List Nat)(rows:List PWr)(F:HP):HP:=bk (S+1+1+1) 289 #[.slice (some ⟨g,0,none⟩) rs.length c]*(lvX b most (some ⟨g,0,none⟩) c rs rows*F)
def getI (S b p most g c:Nat)(rs:List Nat)(rows:List PWr)(F:HP)(k:Nat):HP:=fact (∀j,j<k→wGet (rows.getD (rows.length-1-j) []) p=none)*getH S p 0 false (getX S b most g c rs rows F)
def getIx (S b p most g c:Nat)(rs:List Nat)(rows:List PWr)(F:HP)(k:Nat):HP:=ex fun v=>fact (PLv.getF rows.reverse p=some v)*getH S p v true (getX S b most g c rs rows F)
theorem Li {ω W:World}{P F:HP}{b most g c:Nat}{rs:List Nat}{rows:List PWr}(h:Sat ω W (P*(lvX b most (some ⟨g,0,none⟩) c rs rows*F)))(hn:0<rs.length):g<W.heap.size∧∀i,i<rs.length→W.cell? (κ g i)=some (.pointer (some ⟨rs.getD i 0,0,none⟩)):=by
 have h1:Sat ω W (row 290 1 (.slice (some ⟨g,0,none⟩) rs.length c) rs.length (pS rs)*(P*(bk b 292 #[most,.slice (some ⟨g,0,none⟩) rs.length c]*(lvAll rs rows*F)))):=h.perm (by unfold lvX;ac_rfl)
 have h2:=fun i (hi:i<rs.length)=>h1.rowAt (l:=rs) (f:=fun b=>[pV b]) (fun _=>rfl) 0 (i:=i) hi
 constructor
 ·obtain⟨g',e,h3,_⟩:=h2 0 hn;injection e with e
  injection e with e
  rw[e];exact h3
 ·intro i hi;obtain⟨g',e,_,h3⟩:=h2 i hi;injection e with e
  injection e with e
  have h4:=h3 0 (by omega)
  rw[Nat.mul_one,Nat.add_zero,←e] at h4;exact h4
theorem NG {ω W:World}{P F:HP}{b most:Nat}{A:Option Addr}{c:Nat}{rs:List Nat}{rows:List PWr}(h:Sat ω W (P*(lvX b most A c rs rows*F)))(hl:rs.length=rows.length){i:Nat}(hi:i<rows.length):∃wb G,W.cell? ⟨rs.getD i 0,0,none⟩=some (.pointer (some ⟨wb,0,none⟩))∧rs.getD i 0<W.heap.size∧Sat ω W (wrH wb 96 (rows.getD i [])*G):=by
 obtain⟨R,hR⟩:=Cv rs rows i hl hi;have e1:lvAll rs rows=lvOne (rs.getD i 0) (rows.getD i [])*R:=by
  rw[←hR]
  congr 1
  rw[gD,List.getElem?_eq_getElem hi];simp
 have h1:Sat ω W (lvOne (rs.getD i 0) (rows.getD i [])*(P*(bk b 292 #[most,.slice A rs.length c]*(row 290 1 (.slice A rs.length c) rs.length (pS rs)*(R*F))))):=h.perm (by unfold lvX;rw[e1];ac_rfl)
 obtain⟨wb,h2⟩:=h1.of_ex;exact⟨wb,_,h2.assoc.blk.cell 0,h2.assoc.blk.lt,h2.assoc.right⟩
theorem Nd {ω W:World}{P F:HP}{S b p x most g c:Nat}{t:Bool}{rs:List Nat}{rows:List PWr}(h:Sat ω W (P*getH S p x t (getX S b most g c rs rows F)))(hn:0<rs.length):BackC W (S+1+1+1) g c rs:=by
 have h1:Sat ω W (bk (S+1+1+1) 289 #[.slice (some ⟨g,0,none⟩) rs.length c]*((P*(bk S 3 #[p]*(bk (S+1) 22 #[υ x]*bk (S+1+1) 4 #[.bool t])))*(lvX b most (some ⟨g,0,none⟩) c rs rows*F))):=h.perm (by unfold getH getX;ac_rfl)
 obtain⟨h2,h3⟩:=Li h1.right hn;exact⟨h1.blk.cell 0,h1.blk.lt,h2,h3⟩
theorem Lp {ω W:World}{tmps:Array Value}{D S p x:Nat}{t:Bool}{X:HP}{R:Ending→World→Prop}(h:Sat ω W (bo D (.deferred (some []))*getH S p x t X))(ht:tmps[4]?=some (.pointer (S+1:Nat)))(ht2:tmps[5]?=some (.pointer (some ⟨S+1+1,0,none⟩)))
  (hR:∀W',Sat ω W' X→R (.returned (.tuple #[υ x,.bool t])) W'):
  bodyPostM Fence.wide 6 prog f219 R Exit.ret {tmps:=tmps,defers:=[{target:=.collected D,args:=#[]}]} W:=by
 refine⟨by simp,.inl ⟨_,_,rfl,run_takeDeferred h.getO,?_⟩⟩
 have h2:=h.putO (.deferred none);have h3:=h2.right;have c1:=h3.right.blk.cell 0;have c2:=h3.right.right.blk.cell 0;simp at c1 c2;refine⟨.tuple #[υ x,.bool t],?_,hR _ h3.right.right.right⟩;simp[results,results219,go_sem,ht,ht2,c1,c2]
theorem CT {F:Fence}{n:Nat}{P:Program}{c:Code}{Q:Exit→Act→World→Prop}{a:Act}{w:World}(I:World→Prop)(hI:I w)(h:∀w',I w'→c.wpIn F n P Q a w'):c.wpIn F n P Q a w:=h w hI
theorem Tp (ω w:World)(F:HP)(b:Nat)(l:PLv)(h:Sat ω w (lvH b l*F))(ho:l.ok)(p:Nat):
  Calls prog 219 #[.pointer b,p] w (Rets ω F (.tuple #[υ ((l.get p).getD 0:Nat),.bool (l.get p).isSome]) (lvH b l)):=by
 refine(callsIn_wide (n:=6)).1 ?_;refine callsIn_of_wp_marks func219 rfl trivial ?_ rfl;simp only[ntmps219,List.size_toArray,List.length_cons,List.length_nil,Nat.reduceAdd,Nat.reduceSub,Array.replicate_succ,Array.replicate_zero,List.push_toArray,List.append_toArray,List.nil_append,List.cons_append];have hfn2:Fence.wide.fn 188:=trivial;have HB:=h_ (fun W A n c=>callsIn_wide (n:=5).2 (DH W (.slice A n c) ⟨_,_,_,rfl⟩))
 obtain⟨A,c,rs,hl,hx⟩:=Bu h;have hn:=List.length_pos_iff.2 ho.some_;have hA:Sat ω w (bk b 292 #[l.most,.slice A rs.length c]*(row 290 1 (.slice A rs.length c) rs.length (pS rs)*(lvAll rs l.rows*F))):=by
  unfold lvX at hx;exact hx.perm (by ac_rfl)
 obtain⟨g,rfl,_,_⟩:=hA.right.rowAt (l:=rs) (f:=fun b=>[pV b]) (fun _=>rfl) 0 (i:=0) (by omega)
 have c1:=hA.blk.c 1;have l1:=hA.blk.lt;have l2:b<w.heap.size+1:=by omega
 have l3:b<w.heap.size+1+1:=by omega
 have l4:b<w.heap.size+1+1+1:=by omega
 have hR6:rs.length≤1000:=by have:=ho.few;omega
 have HST:Hid (Sat ω ((((w.alloc (.cells #[p] 3)).alloc (.cells #[υ 0] 22)).alloc (.cells #[.bool false] 4)).alloc (.cells #[.slice (some ⟨g,0,none⟩) rs.length c] 289)) (getI w.heap.size b p l.most g c rs l.rows F 0)):=h_ (by
  have h1:=(((hx.bkNew (t:=3) (cs:=#[p]) rfl).bkNew (t:=22) (cs:=#[υ 0]) (ds:=#[υ (0:Nat)]) rfl).bkNew (t:=4) (cs:=#[.bool false]) rfl).bkNew (t:=289) (cs:=#[.slice (some ⟨g,0,none⟩) rs.length c]) rfl;simp only[World.size_alloc] at h1;exact Sat.to_fact (fun j hj=>absurd hj (by omega)) (h1.perm (by unfold getH getX;ac_rfl)))
 have HLV:Hid (∀(L:HP) W i,Sat ω W (L*getH w.heap.size p 0 false (getX w.heap.size b l.most g c rs l.rows F))→i<rs.length→∃wb,W.cell? ⟨rs.getD i 0,0,none⟩=some (.pointer (some ⟨wb,0,none⟩))∧rs.getD i 0<W.heap.size∧∀W1,Only Nob W W1→Calls prog 257 #[.pointer wb,p] W1 fun e w'=>e=.returned (.tuple #[υ ((wGet (l.rows.getD i []) p).getD 0:Nat),.bool (wGet (l.rows.getD i []) p).isSome])∧Only Nob W w'):=h_ (fun L W i h1 hi=>by
  have h2:Sat ω W ((L*(bk w.heap.size 3 #[p]*(bk (w.heap.size+1) 22 #[υ (0:Nat)]*(bk (w.heap.size+1+1) 4 #[.bool false]*bk (w.heap.size+1+1+1) 289 #[.slice (some ⟨g,0,none⟩) rs.length c]))))*(lvX b l.most (some ⟨g,0,none⟩) c rs l.rows*F)):=h1.perm (by unfold getH getX;ac_rfl)
  obtain⟨wb,G,h3,h4,h5⟩:=NG h2 hl (hl▸hi);exact⟨wb,h3,h4,(LH h5 (by have:=(ho.at_ i).1;omega) p).out⟩)
 have HHI:Hid (∀k v,k<rs.length→(∀j,j<k→wGet (l.rows.getD (l.rows.length-1-j) []) p=none)→wGet (l.rows.getD (rs.length-1-k) []) p=some v→PLv.getF l.rows.reverse p=some v):=h_ (fun k v hk h1 h2=>Pq l.rows p v k (hl▸hk) h1 (hl▸h2))
 have HMI:Hid ((∀j,j<rs.length→wGet (l.rows.getD (l.rows.length-1-j) []) p=none)→l.get p=none):=h_ (fun h1=>Nf l.rows p (fun j hj=>h1 j (hl▸hj)))
 have HFI:Hid (∀W,Sat ω W (getX w.heap.size b l.most g c rs l.rows F)→Sat ω W (lvH b l*F)):=h_ (fun W h1=>Cf hl h1.right)
 have HGE:Hid (l.get p=PLv.getF l.rows.reverse p):=h_ rfl;have HRL:=h_ hl;obtain⟨S,hS⟩:∃S,S=w.heap.size:=⟨_,rfl⟩;have HNS:Hid (∀k v,(wGet (l.rows.getD (rs.length-1-k) []) p)=v→wGet (l.rows.getD (l.rows.length-1-k) []) p=v):=h_ (fun k v h=>by rw[←hl];exact h)
 have hn2:0<rs.length:=by omega
 clear h hx hA ho hn
 gi_wp2_with (gi_at_call 188;refine(HB.o _ _ _ _).mono ?_;rintro e w' ⟨rfl,rfl⟩)
 refine CT (fun W0=>Sat ω W0 (getI w.heap.size b p l.most g c rs l.rows F 0)) (HRL.o▸HST.o) ?_
 intro W0 h0;have H0:=h_ h0;clear c1 l1 l2 l3 l4 HST HB h0;rw[←hS] at HLV HFI H0 ⊢;clear hS;refine Bm (ω:=ω) (B:=S+1+1+1) (g:=g) (cp:=c) (rs:=rs) (by omega) hR6 rfl rfl (getI S b p l.most g c rs l.rows F) (getIx S b p l.most g c rs l.rows F) ?_ H0.o
  (fun k=>{tmps:=#[.pointer (some ⟨b,0,none⟩),p,undef,.pointer (some ⟨S,0,none⟩),.pointer (S+1:Nat),.pointer (some ⟨S+1+1,0,none⟩),undef,.pointer (some ⟨rs.getD (rs.length-1-k) 0,0,none⟩),undef,undef,.pointer b,.pointer b,.pointer (some ⟨b,1,none⟩),.slice (some ⟨g,0,none⟩) l.rows.length c,
   .func (.func 221) #[] #[.pointer (some ⟨S+1+1+1,0,none⟩)],(rs.length-1-k:Nat),.pointer (some ⟨rs.getD (rs.length-1-k) 0,0,none⟩),undef,undef,undef,undef,undef,undef,undef,undef,undef,undef,undef],defers:=[]}) ?assign ?body ?done ?stop
 ·intro k W P h1;exact Nd (h1.perm (show _=(P*fact (∀j,j<k→wGet (l.rows.getD (l.rows.length-1-j) []) p=none))*getH S p 0 false (getX S b l.most g c rs l.rows F) by unfold getI;ac_rfl)) hn2
 case assign =>
  intro lp k W K hk hK;generalize rs.getD (rs.length-1-k) 0=r at *
  generalize rs.length-1-k=i at *
  gi_wp2
  exact hK
 case body =>
  intro lp k W L hk h1;obtain⟨hfa,h2⟩:=(h1.perm (show L*getI S b p l.most g c rs l.rows F k=fact (∀j,j<k→wGet (l.rows.getD (l.rows.length-1-j) []) p=none)*(L*getH S p 0 false (getX S b l.most g c rs l.rows F)) by unfold getI;ac_rfl)).of_fact
  obtain⟨wb,k1,k2,HG⟩:=HLV.o L W (rs.length-1-k) h2 (by omega)
  have k3:=h2.right.blk.c 0;have k4:=h2.right.blk.lt;have HG:=h_ (fun W1 ho=>CallsIn.inRound lp (callsIn_wide (n:=6-1-1-1).2 (HG W1 ho)))
  have hmix:prog.follows .mixedOrders=true:=by kernel_rfl
  have H2:=h_ h2;have HFA:=h_ hfa;have HHK:=h_ (fun v=>HHI.o k v hk hfa)
  have HNK:=h_ (HNS.o k);have hfn3:Fence.wide.fn 257:=trivial;clear h1 h2 hfa;generalize rs.getD (rs.length-1-k) 0=r at *
  generalize rs.length-1-k=i at *
  have HEN0:Hid (∀W',Only Nob W W'→wGet (l.rows.getD i []) p=none→Sat ω W' (L*getI S b p l.most g c rs l.rows F (k+1))):=h_ (fun W' ho he=>by
   have h9:=H2.o.nob ho;have h8:Sat ω W' (getI S b p l.most g c rs l.rows F (k+1)*L):=(Sat.to_fact (fun j hj=>by
    rcases Nat.lt_or_ge j k with h7|h7
    ·exact HFA.o j h7
    ·obtain rfl:j=k:=by omega
     exact HNK.o _ he) h9.comm).assoc'
   exact h8.comm)
  have HEN1:Hid (∀W' v,Only Nob W W'→wGet (l.rows.getD i []) p=some v→Sat ω ((W'.setCell ⟨S+1,0,none⟩ (υ v)).setCell ⟨S+1+1,0,none⟩ (.bool true)) (L*getIx S b p l.most g c rs l.rows F (k+1))∧(S+1<W'.heap.size)∧(S+1+1<W'.heap.size)∧(∃v,W'.cell? ⟨S+1,0,none⟩=some v)∧(∃v,W'.cell? ⟨S+1+1,0,none⟩=some v)∧(∀j,W'.frozen? ⟨S+1,j,none⟩=false)∧(∀j,W'.frozen? ⟨S+1+1,j,none⟩=false)):=h_ (fun W' v ho he=>by
   have h9:=H2.o.nob ho;have h8:Sat ω W' (bk (S+1) 22 #[υ (0:Nat)]*(bk (S+1+1) 4 #[.bool false]*(bk S 3 #[p]*(getX S b l.most g c rs l.rows F*L)))):=h9.perm (by unfold getH;ac_rfl)
   have h7:=((h8.put 0 (υ v) (cs':=#[υ v]) rfl).swap.put 0 (.bool true) (cs':=#[.bool true]) rfl);have h6:Sat ω _ (getH S p v true (getX S b l.most g c rs l.rows F)*L):=h7.perm (by unfold getH;ac_rfl)
   have h5:Sat ω _ (getIx S b p l.most g c rs l.rows F (k+1)*L):=Sat.to_ex v ((h6.to_fact (HHK.o v he)).assoc');exact⟨h5.comm,h8.blk.lt,h8.right.blk.lt,⟨_,h8.blk.cell 0⟩,⟨_,h8.right.blk.cell 0⟩,h8.blk.frozen,h8.right.blk.frozen⟩)
  generalize wGet (l.rows.getD i []) p=o at *
  clear HHK HNK HFA H2 HLV HHI HMI HNS hk;cases o with
  |none =>
   have HE:=h_ (fun W' ho=>HEN0.o W' ho rfl)
   simp only[Option.getD_none,Option.isSome_none] at HG;clear HEN0 HEN1
   gi_wp2
   gi_region_with_o (gi_at_call 257;refine(HG.o _ (Only.refl _ _).drew).mono ?_;rintro e w1 ⟨rfl,ho⟩;have HO:=h_ ho;clear ho)
   all_goals gi_wp2
   all_goals exact HE.o _ HO.o
  |some v =>
   have HE:=h_ (fun W' ho=>HEN1.o W' v ho rfl)
   simp only[Option.getD_some,Option.isSome_some] at HG;clear HEN0 HEN1
   gi_wp2
   gi_region_with_o (gi_at_call 257;refine(HG.o _ (Only.refl _ _).drew).mono ?_;rintro e w1 ⟨rfl,ho⟩;obtain⟨z1,z2,z3,⟨v1,z4⟩,⟨v2,z5⟩,z6,z7⟩:=HE.o _ ho;have HZ:=h_ z1;clear ho z1)
   all_goals gi_wp2
   all_goals exact HZ.o
 case done =>
  intro D W h1;obtain⟨hfa,h2⟩:=(h1.perm (show bo D (.deferred (some []))*getI S b p l.most g c rs l.rows F rs.length=fact (∀j,j<rs.length→wGet (l.rows.getD (l.rows.length-1-j) []) p=none)*(bo D (.deferred (some []))*getH S p 0 false (getX S b l.most g c rs l.rows F)) by unfold getI;ac_rfl)).of_fact
  have HE:=h_ (HMI.o hfa);have h8:Sat ω W (bk (S+1) 22 #[υ (0:Nat)]*(bk (S+1+1) 4 #[.bool false]*(bk S 3 #[p]*(getX S b l.most g c rs l.rows F*bo D (.deferred (some [])))))):=h2.perm (by unfold getH;ac_rfl)
  have k1:=h8.blk.cell 0;have k2:=h8.right.blk.cell 0;have k3:=h8.blk.frozen;have k4:=h8.right.blk.frozen;have k5:=h8.blk.lt;have k6:=h8.right.blk.lt;have h7:=((h8.put 0 (υ 0) (cs':=#[υ (0:Nat)]) rfl).swap.put 0 (.bool false) (cs':=#[.bool false]) rfl);have HS:=h_ (h7.perm (show _=bo D (.deferred (some []))*getH S p 0 false (getX S b l.most g c rs l.rows F) by unfold getH;ac_rfl))
  clear h1 h2 h7 h8 hfa HMI HHI HLV HNS H0
  gi_wp2
  exact Lp HS.o rfl rfl (fun W' h=>⟨by rw[HE.o];rfl,HFI.o _ h⟩)
 case stop =>
  intro D k W hk h1;obtain⟨v,h2⟩:=(h1.comm.of_ex);obtain⟨hv,h3⟩:=h2.assoc.of_fact;have HS:=h_ h3.comm;have HV:=h_ (HGE.o.trans hv);clear h1 h2 h3 HMI HHI HLV HNS H0 hv HGE
  gi_wp2
  exact Lp HS.o rfl rfl (fun W' h=>⟨by rw[HV.o];rfl,HFI.o _ h⟩)
end
end Go.Proofs.YtfodmgaliclhfaaGreatDoor
