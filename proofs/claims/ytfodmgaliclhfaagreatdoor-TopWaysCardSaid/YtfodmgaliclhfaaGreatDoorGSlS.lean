/- Lemmas. -/
import Derived.Test.YtfodmgaliclhfaaGreatDoorGLvGet
import Derived.OwnWalk
namespace Go.Proofs.YtfodmgaliclhfaaGreatDoor
set_option linter.unusedVariables false
set_option linter.unusedSimpArgs false
set_option maxRecDepth 100000
set_option maxHeartbeats 4000000
open Go.RowKit Go.Proofs.Tryz Iq Jq
section
open Go.RowKit Go.Shelf
attribute [local go_sem] Oper.semAt_some
def wOk (l:PWr):Prop:=l.length≤96∧∀x∈l,x.1≤1000000
theorem GL:wOk []:=⟨by simp,by simp⟩
theorem RX {l:PWr}(h:wOk l){p:Nat}(hp:p≤1000000)(v:Nat):wOk (wPut 96 l p v).2:=by
 unfold wPut;split
 ·exact h
 ·split
  ·refine⟨by simpa using h.1,fun x hx=>?_⟩
   rcases List.mem_or_eq_of_mem_set hx with h1|h1
   ·exact h.2 x h1
   ·rw[h1];exact hp
  ·split
   ·exact h
   ·refine⟨by simp;omega,fun x hx=>?_⟩
    rcases List.mem_append.1 hx with h1|h1
    ·exact h.2 x h1
    ·rw[List.mem_singleton.1 h1];exact hp
theorem Ff:∀(s:PWr) {l:PWr},wOk l→(∀x∈s,x.1≤1000000)→wOk (wTakeF 96 l s).2
 | [],l,h,_=>h
 |c::s,l,h,hs=>by
  rw[wTakeF];have h1:=RX h (hs c List.mem_cons_self) c.2;split
  ·exact h1
  ·exact Ff s h1 (fun x hx=>hs x (List.mem_cons_of_mem _ hx))
theorem Ck {l s:PWr}(h:wOk l)(hs:∀x∈s,x.1≤1000000):wOk (wTake 96 l s).2:=by
 unfold wTake;simp only;split
 ·exact h
 ·exact Ff s h hs
def cellsK (rows:List PWr)(k:Nat):PWr:=(rows.reverse.take k).foldl (fun out r=>(wTake 96 (wTake 96 [] r).2 out).2) []
theorem Kr (l:PLv):cellsK l.rows l.rows.length=l.cells:=by
 unfold cellsK PLv.cells;rw[List.take_of_length_le (by rw[List.length_reverse];exact Nat.le_refl _)]
theorem Dm (rows:List PWr){k:Nat}(hk:k<rows.length):cellsK rows (k+1)=(wTake 96 (wTake 96 [] (rows.getD (rows.length-1-k) [])).2 (cellsK rows k)).2:=by
 unfold cellsK;have hlt:k<rows.reverse.length:=by rw[List.length_reverse];exact hk
 rw[List.take_succ_eq_append_getElem hlt,List.foldl_append,List.getElem_reverse,gD,List.getElem?_eq_getElem (by omega)]
 rfl
theorem GC {l:PLv}(h:l.ok):∀k,k≤l.rows.length→wOk (cellsK l.rows k)
 |0,_=>GL
 |k+1,hk=>by
  rw[Dm l.rows (by omega)]
  exact Ck (Ck GL (h.at_ _).2) (GC h k (by omega)).2
def celI (S b most g c:Nat)(rs:List Nat)(rows:List PWr)(F:HP)(k:Nat):HP:=ex fun A=>ex fun c2=>bk S 49 #[.slice A (cellsK rows k).length c2]*(row 54 2 (.slice A (cellsK rows k).length c2) (cellsK rows k).length (vS (cellsK rows k))*(bk (S+1) 289 #[.slice (some ⟨g,0,none⟩) rs.length c]*(lvX b most (some ⟨g,0,none⟩) c rs rows*F)))
theorem NF {ω W:World}{P F:HP}{b most:Nat}{A:Option Addr}{c:Nat}{rs:List Nat}{rows:List PWr}(h:Sat ω W (P*(lvX b most A c rs rows*F)))(hl:rs.length=rows.length){i:Nat}(hi:i<rows.length):∃wb G,Sat ω W (wrH wb 96 (rows.getD i [])*G) ∧
  ∀W' Q,Sat ω W' (Q*(wrH wb 96 (rows.getD i [])*G))→W'.cell? ⟨rs.getD i 0,0,none⟩=some (.pointer (some ⟨wb,0,none⟩))∧rs.getD i 0<W'.heap.size∧Sat ω W' (Q*(P*(lvX b most A c rs rows*F))):=by
 obtain⟨R,hR⟩:=Cv rs rows i hl hi;have e1:lvAll rs rows=lvOne (rs.getD i 0) (rows.getD i [])*R:=by
  rw[←hR]
  congr 1
  rw[gD,List.getElem?_eq_getElem hi];simp
 have h1:Sat ω W (lvOne (rs.getD i 0) (rows.getD i [])*(P*(bk b 292 #[most,.slice A rs.length c]*(row 290 1 (.slice A rs.length c) rs.length (pS rs)*(R*F))))):=h.perm (by unfold lvX;rw[e1];ac_rfl)
 obtain⟨wb,h2⟩:=h1.of_ex;refine⟨wb,bk (rs.getD i 0) 296 #[pV wb,.slice none 0 0]*(P*(bk b 292 #[most,.slice A rs.length c]*(row 290 1 (.slice A rs.length c) rs.length (pS rs)*(R*F)))),h2.perm (by ac_rfl),fun W' Q h3=>?_⟩
 have h4:=h3.right.right.blk;refine⟨h4.cell 0,h4.lt,?_⟩;have h5:Sat ω W' ((bk (rs.getD i 0) 296 #[pV wb,.slice none 0 0]*wrH wb 96 (rows.getD i []))*(Q*(P*(bk b 292 #[most,.slice A rs.length c]*(row 290 1 (.slice A rs.length c) rs.length (pS rs)*(R*F)))))):=h3.perm (by ac_rfl)
 have h6:Sat ω W' (lvOne (rs.getD i 0) (rows.getD i [])*_):=Sat.to_ex wb h5;exact h6.perm (by unfold lvX;rw[e1];ac_rfl)
theorem Ny {ω W:World}{tmps:Array Value}{D S b most g c:Nat}{rs:List Nat}{rows:List PWr}{F:HP}{R:Ending→World→Prop}{v:Value}(h:Sat ω W (bo D (.deferred (some []))*F))(ht:tmps[2]?=some v)
  (hR:∀W',Sat ω W' F→R (.returned v) W'):
  bodyPostM Fence.wide 6 prog f161 R Exit.ret {tmps:=tmps,defers:=[{target:=.collected D,args:=#[]}]} W:=by
 refine⟨by simp,.inl ⟨_,_,rfl,run_takeDeferred h.getO,?_⟩⟩
 have h2:=h.putO (.deferred none);refine⟨v,?_,hR _ h2.right⟩;simp[results,results161,go_sem,ht]
theorem PT (ω w:World)(F:HP)(b:Nat)(l:PLv)(h:Sat ω w (lvH b l*F))(ho:l.ok):
  Calls prog 161 #[.pointer b] w (RetR ω (lvH b l*F) 54 2 l.cells.length (vS l.cells)):=by
 refine(callsIn_wide (n:=6)).1 ?_;refine callsIn_of_wp_marks func161 rfl trivial ?_ rfl;simp only[ntmps161,List.size_toArray,List.length_cons,List.length_nil,Nat.reduceAdd,Nat.reduceSub,Array.replicate_succ,Array.replicate_zero,List.push_toArray,List.append_toArray,List.nil_append,List.cons_append];have hfn2:Fence.wide.fn 188:=trivial;have HB:=h_ (fun W A n c=>callsIn_wide (n:=5).2 (DH W (.slice A n c) ⟨_,_,_,rfl⟩))
 obtain⟨A,c,rs,hl,hx⟩:=Bu h;have hn:=List.length_pos_iff.2 ho.some_;have hA:Sat ω w (bk b 292 #[l.most,.slice A rs.length c]*(row 290 1 (.slice A rs.length c) rs.length (pS rs)*(lvAll rs l.rows*F))):=by
  unfold lvX at hx;exact hx.perm (by ac_rfl)
 obtain⟨g,rfl,_,_⟩:=hA.right.rowAt (l:=rs) (f:=fun b=>[pV b]) (fun _=>rfl) 0 (i:=0) (by omega)
 have c1:=hA.blk.c 1;have l1:=hA.blk.lt;have l2:b<w.heap.size+1:=by omega
 have hR6:rs.length≤1000:=by have:=ho.few;omega
 have HST:Hid (Sat ω ((w.alloc (.cells #[.slice none 0 0] 49)).alloc (.cells #[.slice (some ⟨g,0,none⟩) rs.length c] 289)) (celI w.heap.size b l.most g c rs l.rows F 0)):=h_ (by
  have h1:=(((hx.bkNew (t:=49) (cs:=#[.slice none 0 0]) rfl).bkNew (t:=289) (cs:=#[.slice (some ⟨g,0,none⟩) rs.length c]) rfl).nil 54 2);simp only[World.size_alloc] at h1;have h2:Sat ω _ (bk w.heap.size 49 #[.slice none 0 0]*(row 54 2 (.slice none 0 0) 0 []*(bk (w.heap.size+1) 289 #[.slice (some ⟨g,0,none⟩) rs.length c]*(lvX b l.most (some ⟨g,0,none⟩) c rs l.rows*F)))):=h1.perm (by ac_rfl)
  obtain⟨x,hx1,hx2⟩:=h2.part;exact⟨h2.os,h2.tape,h2.output,x,hx1,none,0,hx2⟩)
 gi_wp2_with (gi_at_call 188;refine(HB.o _ _ _ _).mono ?_;rintro e w' ⟨rfl,rfl⟩)
 refine CT (fun W0=>Sat ω W0 (celI w.heap.size b l.most g c rs l.rows F 0)) (by rw[←hl];exact HST.o) ?_
 intro W0 h0;have H0:=h_ h0;have HST2:Hid (∀k,k<rs.length→wOk (l.rows.getD (rs.length-1-k) [])∧wOk (cellsK l.rows k)∧cellsK l.rows (k+1)=(wTake 96 (wTake 96 [] (l.rows.getD (rs.length-1-k) [])).2 (cellsK l.rows k)).2):=h_ (fun k hk=>⟨ho.at_ _,GC ho k (by omega),hl▸Dm l.rows (hl▸hk)⟩)
 have HFI:Hid (cellsK l.rows rs.length=l.cells):=h_ (by rw[hl];exact Kr l)
 have HLV:Hid (∀{P:HP} {W:World} {i:Nat},Sat ω W (P*(lvX b l.most (some ⟨g,0,none⟩) c rs l.rows*F))→i<rs.length→∃wb G,Sat ω W (wrH wb 96 (l.rows.getD i [])*G) ∧
  ∀W' Q,Sat ω W' (Q*(wrH wb 96 (l.rows.getD i [])*G))→W'.cell? ⟨rs.getD i 0,0,none⟩=some (.pointer (some ⟨wb,0,none⟩))∧rs.getD i 0<W'.heap.size∧Sat ω W' (Q*(P*(lvX b l.most (some ⟨g,0,none⟩) c rs l.rows*F)))):=h_ (fun h hi=>NF h hl (hl▸hi))
 have HLT:Hid (∀W' F',Sat ω W' (lvX b l.most (some ⟨g,0,none⟩) c rs l.rows*F')→Sat ω W' (lvH b l*F')):=h_ (fun W F' h1=>Cf hl h1)
 obtain⟨S,hS⟩:∃S,S=w.heap.size:=⟨_,rfl⟩;rw[←hS] at H0 ⊢;have hn2:0<rs.length:=by omega
 clear hS c1 l1 l2 HST HB h0 hA hx h ho hn;refine Bm (ω:=ω) (B:=S+1) (g:=g) (cp:=c) (rs:=rs) (by omega) hR6 rfl rfl (celI S b l.most g c rs l.rows F) (fun _=>fact False) ?_ H0.o
  (fun k=>{tmps:=#[.pointer (some ⟨b,0,none⟩),undef,.slice none 0 0,.pointer (some ⟨S,0,none⟩),undef,.pointer (some ⟨rs.getD (rs.length-1-k) 0,0,none⟩),undef,.pointer b,.pointer b,.pointer (some ⟨b,1,none⟩),.slice (some ⟨g,0,none⟩) l.rows.length c,
   .func (.func 221) #[] #[.pointer (S+1:Nat)],(rs.length-1-k:Nat),.pointer (some ⟨rs.getD (rs.length-1-k) 0,0,none⟩),undef,undef,undef,undef,undef,undef,undef,undef,undef,undef,undef,undef,undef,undef],defers:=[]}) ?assign ?body ?done ?stop
 ·intro k W P h1;obtain⟨A,h1⟩:=h1.comm.of_ex;obtain⟨c2,h1⟩:=h1.of_ex;have h2:Sat ω W ((bk S 49 #[.slice A (cellsK l.rows k).length c2]*(row 54 2 (.slice A (cellsK l.rows k).length c2) (cellsK l.rows k).length (vS (cellsK l.rows k))*(bk (S+1) 289 #[.slice (some ⟨g,0,none⟩) rs.length c]*P)))*(lvX b l.most (some ⟨g,0,none⟩) c rs l.rows*F)):=h1.perm (by ac_rfl)
  obtain⟨h3,h4⟩:=Li h2 hn2;have h5:=h2.assoc.right.assoc.right.assoc.blk;exact⟨h5.cell 0,h5.lt,h3,h4⟩
 case assign =>
  intro lp k W K hk hK;generalize rs.getD (rs.length-1-k) 0=r at *
  generalize rs.length-1-k=i at *
  gi_wp2
  exact hK
 case body =>
  intro lp k W L hk h1;obtain⟨A,h1⟩:=h1.comm.of_ex;obtain⟨c2,h1⟩:=h1.of_ex;obtain⟨o1,o2,o3⟩:=HST2.o k hk;have hLE:Hid (celI S b l.most g c rs l.rows F (k+1)=ex fun A=>ex fun c2=>bk S 49 #[.slice A (cellsK l.rows (k+1)).length c2]*(row 54 2 (.slice A (cellsK l.rows (k+1)).length c2) (cellsK l.rows (k+1)).length (vS (cellsK l.rows (k+1)))*(bk (S+1) 289 #[.slice (some ⟨g,0,none⟩) rs.length c]*(lvX b l.most (some ⟨g,0,none⟩) c rs l.rows*F)))):=h_ rfl
  have hLE2:=h_ (hLE.out);rw[o3] at hLE;obtain⟨oK,hoK⟩:∃x,cellsK l.rows k=x:=⟨_,rfl⟩;rw[hoK] at h1 o2 hLE;obtain⟨wb,G,h2,h3⟩:=HLV.o (P:=L*(bk S 49 #[.slice A oK.length c2]*(row 54 2 (.slice A oK.length c2) oK.length (vS oK)*bk (S+1) 289 #[.slice (some ⟨g,0,none⟩) rs.length c]))) (W:=W) (i:=rs.length-1-k) (h1.perm (by ac_rfl)) (by omega)
  have H3:=h_ h3;have H2:=h_ h2;generalize rs.getD (rs.length-1-k) 0=r at *
  generalize rs.length-1-k=i at *
  generalize l.rows.getD i []=rI at *
  have o4:=Ck GL o1.2;obtain⟨tK,htK⟩:∃x,wTake 96 [] rI=x:=⟨_,rfl⟩;rw[htK] at o4 hLE;have o5:=Ck o4 o2.2;obtain⟨uK,huK⟩:∃x,wTake 96 tK.2 oK=x:=⟨_,rfl⟩;rw[huK] at o5 hLE;have hfn3:Fence.wide.fn 189:=trivial;have hfn4:Fence.wide.fn 191:=trivial;have hfn5:Fence.wide.fn 190:=trivial;have HNEW:=h_ (CallsIn.inRound lp (callsIn_wide (n:=6-1-1-1).2 (OM ω W _ H2.o)));have HALL:=h_ (fun(W:World) (F:HP) (b:Nat) (l:PWr) (h:Sat ω W (wrH b 96 l*F)) (hl:l.length≤1000)=>CallsIn.inRound lp (callsIn_wide (n:=6-1-1-1).2 (JW ω W F b 96 l h hl)))
  have HTK1:Hid (∀(W:World) (F:HP) (b:Nat) (A:Option Addr) (c:Nat),Sat ω W (wrH b 96 []*(row 54 2 (.slice A rI.length c) rI.length (vS rI)*F))→CallsIn (Fence.wide.inRound lp) (6-1-1-1) prog 190 #[.pointer b,.slice A rI.length c] W (WrPost ω (row 54 2 (.slice A rI.length c) rI.length (vS rI)*F) b 96 tK)):=h_ (fun W F b A c h=>by
   have h9:=GJ ω W F b 96 [] rI A c h (by simp) (by omega) (by have:=o1.1;omega) o1.2
   rw[htK] at h9;exact CallsIn.inRound lp (callsIn_wide (n:=6-1-1-1).2 h9))
  have HTK2:Hid (∀(W:World) (F:HP) (b:Nat) (A:Option Addr) (c:Nat),Sat ω W (wrH b 96 tK.2*(row 54 2 (.slice A oK.length c) oK.length (vS oK)*F))→CallsIn (Fence.wide.inRound lp) (6-1-1-1) prog 190 #[.pointer (some ⟨b,0,none⟩),.slice A oK.length c] W (WrPost ω (row 54 2 (.slice A oK.length c) oK.length (vS oK)*F) b 96 uK)):=h_ (fun W F b A c h=>by
   have h9:=GJ ω W F b 96 tK.2 oK A c h (by have:=o4.1;omega) (by omega) (by have:=o2.1;omega) o2.2
   rw[huK] at h9;exact CallsIn.inRound lp (callsIn_wide (n:=6-1-1-1).2 h9))
  have hz1:rI.length≤1000:=by have:=o1.1;omega
  have hz2:uK.2.length≤1000:=by have:=o5.1;omega
  have HFIN:Hid (∀W' A5 c5 wa,Sat ω W' (row 54 2 (.slice A5 uK.2.length c5) uK.2.length (vS uK.2)*(wrH wa 96 uK.2*(row 54 2 (.slice A oK.length c2) oK.length (vS oK)*(bk S 49 #[.slice A oK.length c2]*(L*(bk (S+1) 289 #[.slice (some ⟨g,0,none⟩) rs.length c]*(lvX b l.most (some ⟨g,0,none⟩) c rs l.rows*F)))))))→Sat ω (W'.setCell (κ S 0) (.slice A5 uK.2.length c5)) (L*celI S b l.most g c rs l.rows F (k+1))∧S<W'.heap.size∧(∃v,W'.cell? S=some v)∧(∀j,W'.frozen? (κ S j)=false)):=h_ (fun W' A5 c5 wa h=>by
   have h8:Sat ω W' (bk S 49 #[.slice A oK.length c2]*((wrH wa 96 uK.2*row 54 2 (.slice A oK.length c2) oK.length (vS oK))*(L*(row 54 2 (.slice A5 uK.2.length c5) uK.2.length (vS uK.2)*(bk (S+1) 289 #[.slice (some ⟨g,0,none⟩) rs.length c]*(lvX b l.most (some ⟨g,0,none⟩) c rs l.rows*F)))))):=h.perm (by ac_rfl)
   have h7:=(h8.put 0 (.slice A5 uK.2.length c5) (cs':=#[.slice A5 uK.2.length c5]) rfl).swap.right;refine⟨?_,h8.blk.lt,⟨_,h8.blk.cell 0⟩,h8.blk.frozen⟩;rw[hLE.out];have h6:Sat ω _ ((bk S 49 #[.slice A5 uK.2.length c5]*(row 54 2 (.slice A5 uK.2.length c5) uK.2.length (vS uK.2)*(bk (S+1) 289 #[.slice (some ⟨g,0,none⟩) rs.length c]*(lvX b l.most (some ⟨g,0,none⟩) c rs l.rows*F))))*L):=h7.perm (by ac_rfl)
   exact(Sat.to_ex A5 (Sat.to_ex c5 h6)).comm)
  have HMID:Hid (∀W' wa A2 cc,Sat ω W' (wrH wa 96 tK.2*(row 54 2 (.slice A2 rI.length cc) rI.length (vS rI)*(wrH wb 96 rI*G)))→Sat ω W' (wrH wa 96 tK.2*(row 54 2 (.slice A oK.length c2) oK.length (vS oK)*(bk S 49 #[.slice A oK.length c2]*(L*(bk (S+1) 289 #[.slice (some ⟨g,0,none⟩) rs.length c]*(lvX b l.most (some ⟨g,0,none⟩) c rs l.rows*F))))))):=h_ (fun W' wa A2 cc h=>by
   have h8:Sat ω W' ((wrH wa 96 tK.2*row 54 2 (.slice A2 rI.length cc) rI.length (vS rI))*(wrH wb 96 rI*G)):=h.perm (by ac_rfl)
   obtain⟨_,_,h7⟩:=H3.o W' _ h8;have h6:Sat ω W' (row 54 2 (.slice A2 rI.length cc) rI.length (vS rI)*(wrH wa 96 tK.2*(row 54 2 (.slice A oK.length c2) oK.length (vS oK)*(bk S 49 #[.slice A oK.length c2]*(L*(bk (S+1) 289 #[.slice (some ⟨g,0,none⟩) rs.length c]*(lvX b l.most (some ⟨g,0,none⟩) c rs l.rows*F))))))):=h7.perm (by ac_rfl)
   exact h6.right)
  clear hLE hoK htK huK o1 o2 o4 o5 HST2 HLV HLT HFI H0 H2;generalize L*celI S b l.most g c rs l.rows F (k+1)=GOAL at *
  generalize (L*(bk (S+1) 289 #[.slice (some ⟨g,0,none⟩) rs.length c]*(lvX b l.most (some ⟨g,0,none⟩) c rs l.rows*F)))=REST at *
  generalize L*(bk S 49 #[.slice A oK.length c2]*(row 54 2 (.slice A oK.length c2) oK.length (vS oK)*bk (S+1) 289 #[.slice (some ⟨g,0,none⟩) rs.length c]))*(lvX b l.most (some ⟨g,0,none⟩) c rs l.rows*F)=PP at *
  obtain⟨te,tl⟩:=tK;obtain⟨ue,ul⟩:=uK;simp only at *
  gi_wp2_with (first
   |(gi_at_call 189;refine(HNEW.o).mono ?_;rintro e w1 ⟨wa,rfl,hx⟩;obtain⟨z1,z2,_⟩:=H3.o w1 _ hx;have HS1:=h_ hx;clear hx)
   |(gi_at_call 191;refine(HALL.o _ _ _ _ HS1.o.swap hz1).mono ?_;rintro e w2 ⟨A2,cc,rfl,hx⟩;have HS2:=h_ (hx.perm (show _=wrH wa 96 []*(row 54 2 (.slice A2 rI.length cc) rI.length (vS rI)*(wrH wb 96 rI*G)) by ac_rfl));clear hx HS1)
   |(gi_at_call 190;refine(HTK1.o _ _ _ _ _ HS2.o).mono ?_;rintro e w3 ⟨rfl,hx⟩;have hy:=HMID.o _ _ _ _ hx;have q:=hy.right.right.blk;have q1:=q.c 0;have q2:=q.lt;have HS3:=h_ hy;clear hx hy q HS2)
   |(gi_at_call 190;refine(HTK2.o _ _ _ _ _ HS3.o).mono ?_;rintro e w4 ⟨rfl,hx⟩;have HS4:=h_ hx;clear hx HS3)
   |(gi_at_call 191;refine(HALL.o _ _ _ _ HS4.o hz2).mono ?_;rintro e w5 ⟨A5,c5,rfl,hx⟩;obtain⟨y1,y2,⟨v,y3⟩,y4⟩:=HFIN.o _ _ _ _ hx;have HS5:=h_ y1))
  exact HS5.o
 case done =>
  intro D W h1;obtain⟨A,h1⟩:=h1.comm.of_ex;obtain⟨c2,h1⟩:=h1.of_ex;rw[HFI.o] at h1;have h2:Sat ω W (bk S 49 #[.slice A l.cells.length c2]*(bk (S+1) 289 #[.slice (some ⟨g,0,none⟩) rs.length c]*(bo D (.deferred (some []))*(row 54 2 (.slice A l.cells.length c2) l.cells.length (vS l.cells)*(lvX b l.most (some ⟨g,0,none⟩) c rs l.rows*F))))):=h1.perm (by ac_rfl)
  have q:=h2.blk;have q1:=q.c 0;have q2:=q.lt;have HS:=h_ h2.right.right
  gi_wp2
  exact Ny (S:=S) (b:=b) (most:=l.most) (g:=g) (c:=c) (rs:=rs) (rows:=l.rows) HS.o rfl (fun W' h=>⟨A,c2,rfl,(HLT.o W' _ h.swap).swap⟩)
 case stop =>
  intro D k W hk h1;obtain⟨hf,_⟩:=h1.comm.of_fact;exact hf.elim
theorem PS (ω w:World)(F:HP)(b:Nat)(l:PLv)(h:Sat ω w (lvH b l*F))(ho:l.ok):
  Calls prog 171 #[.pointer b] w fun e w'=>e=.returned (.slice none 0 0)∧Only Nob w w':=by
 obtain⟨N,hN⟩:∃N,l.rows.length=N:=⟨_,rfl⟩;have hN2:0<N∧N≤6:=by have:=ho.few;have:=List.length_pos_iff.2 ho.some_;omega
 have HC:Hid (∀k,k<N→∃g cp r wb,LvC w b N k g cp r wb):=h_ (fun k hk=>by
  obtain⟨g,cp,r,wb,G,h1,h2,_⟩:=El h (i:=k) (by omega)
  exact⟨g,cp,r,wb,hN▸h2 w _ _ h1⟩)
 have HM:Hid ((∃A cp,w.cell? (κ b 1)=some (.slice A N cp))∧b<w.heap.size):=h_ (by
  obtain⟨A,c,rs,hl,h1⟩:=Bu h;have h2:=h1.assoc.blk;rw[hl,hN] at h2;exact⟨⟨A,c,h2.cell 1⟩,h2.lt⟩)
 obtain⟨⟨A,cp,m1⟩,lb⟩:=HM.o;go_enter func171,ntmps171;go_wp2;go_loopw [3,11] (fun v i wr=>∃(k:Nat),k≤N∧i=.int .i64 k∧v=.slice none 0 0∧wr=w) (fun _ i _=>N-(intOf i).toNat)
 case atStart=>exact⟨0,by omega,rfl,rfl,rfl⟩
 case round =>
  obtain⟨k,hk,rfl,rfl,rfl⟩:=hrel;by_cases hlt:k<N
  ·obtain⟨g,cp',r,wb,c1,c2,c3,c4,l1,l2,l3⟩:=HC.o k hlt;rw[m1] at c1;injection c1 with c1
   injection c1 with c1 _ _
   subst c1;unfold pV at *
   go_wp2;exact⟨⟨k+1,by omega,by go_num,by first|trivial|rfl,by first|trivial|rfl⟩,by simp[intOf];omega⟩
  ·obtain rfl:k=N:=by omega
   go_wp2;go_ret;exact⟨rfl,Only.refl _ _⟩
end
section
variable (ω w : World) (F : HP)
def faV (o:Option Nat):List Value:=[.int .u64 ((o.getD 0:Nat):Int),.bool o.isSome]
def vFa (l:List (Option Nat)):List Value:=l.flatMap faV
def vwX (b need lb:Nat)(fA:Option Addr)(fc:Nat)(oA:Option Addr)(oc:Nat)(facts:List (Option Nat))(order:List Nat)(logs:PLv):HP :=
 bk b 251 #[.slice fA facts.length fc,.slice oA order.length oc,pV lb,need]*(row 267 2 (.slice fA facts.length fc) facts.length (vFa facts)*(row 3 1 (.slice oA order.length oc) order.length (vI order)*lvH lb logs))
def vwH (b:Nat)(v:PVw):HP:=ex fun lb=>ex fun fA=>ex fun fc=>ex fun oA=>ex fun oc=>vwX b v.need lb fA fc oA oc v.facts v.order v.logs
theorem CY {ω w:World}{F:HP}{b:Nat}{v:PVw}(h:Sat ω w (vwH b v*F)):∃lb fA fc oA oc,Sat ω w (vwX b v.need lb fA fc oA oc v.facts v.order v.logs*F):=by
 obtain⟨lb,h⟩:=h.of_ex;obtain⟨fA,h⟩:=h.of_ex;obtain⟨fc,h⟩:=h.of_ex;obtain⟨oA,h⟩:=h.of_ex;obtain⟨oc,h⟩:=h.of_ex;exact⟨lb,fA,fc,oA,oc,h⟩
theorem EO {ω w:World}{F:HP}{b:Nat}{v:PVw}{lb:Nat}{fA:Option Addr}{fc:Nat}{oA:Option Addr}{oc:Nat}(h:Sat ω w (vwX b v.need lb fA fc oA oc v.facts v.order v.logs*F)):Sat ω w (vwH b v*F) :=
 Sat.to_ex lb (Sat.to_ex fA (Sat.to_ex fc (Sat.to_ex oA (Sat.to_ex oc h))))
theorem UU (b:Nat)(v:PVw)(h:Sat ω w (vwH b v*F))(p:Nat):
  Calls prog 218 #[.pointer b,p] w fun e w'=>e=.returned (.bool (v.is p))∧w'=w:=by
 obtain⟨lb,fA,fc,oA,oc,hx⟩:=CY h;have c1:=hx.assoc.blk.c 0;have l1:=hx.assoc.blk.lt;unfold PVw.is;generalize v.facts.length=n at *
 by_cases h1:1≤p
 ·have d:(1:Int)≤(p:Int):=by omega
  by_cases h2:p<n
  ·have d2:(p:Int)<(n:Int):=by omega
   rw[show(decide (1≤p)&&decide (p<n))=true by simp[h1,h2]]
   go_enter func218,ntmps218;go_wp2;go_ret;exact⟨by simp[h2],rfl⟩
  ·have d2:¬(p:Int)<(n:Int):=by omega
   rw[show(decide (1≤p)&&decide (p<n))=false by simp[h1,h2]]
   go_enter func218,ntmps218;go_wp2;go_ret;exact⟨by simp[h2],rfl⟩
 ·have d:¬(1:Int)≤(p:Int):=by omega
  rw[show(decide (1≤p)&&decide (p<n))=false by simp[h1]]
  go_enter func218,ntmps218;go_wp2;go_ret;exact⟨rfl,rfl⟩
theorem EN {ω w:World}{F:HP}{b:Nat}{v:PVw}(h:Sat ω w (vwH b v*F))(p:Nat):Hid (∀w1,Only Nob w w1→Calls prog 218 #[.pointer b,p] w1 fun e w'=>e=.returned (.bool (v.is p))∧w'=w1) :=
 h_ (fun w1 ho=>UU ω w1 F b v (h.nob ho) p)
theorem Be {ω w:World}{F:HP}{b:Nat}{v:PVw}(h:Sat ω w (vwH b v*F)):∃lb G,w.cell? (κ b 2)=some (pV lb)∧b<w.heap.size∧Sat ω w (lvH lb v.logs*(G*F))∧(∀w' l F',Sat ω w' (lvH lb l*(G*F'))→Sat ω w' (vwH b {v with logs:=l}*F')):=by
 obtain⟨lb,fA,fc,oA,oc,hx⟩:=CY h;refine⟨lb,bk b 251 #[.slice fA v.facts.length fc,.slice oA v.order.length oc,pV lb,v.need]*(row 267 2 (.slice fA v.facts.length fc) v.facts.length (vFa v.facts)*row 3 1 (.slice oA v.order.length oc) v.order.length (vI v.order)),hx.assoc.blk.cell 2,hx.assoc.blk.lt,hx.perm (by unfold vwX;ac_rfl),fun w' l F' h2=>EO (lb:=lb) (fA:=fA) (fc:=fc) (oA:=oA) (oc:=oc) (h2.perm (by unfold vwX;ac_rfl))⟩
theorem RZ (b:Nat)(v:PVw)(h:Sat ω w (vwH b v*F))(ho:v.ok):
  Calls prog 319 #[.pointer b] w (Rets ω F (.int .i64 v.open_.1) (vwH b v.open_.2)):=by
 obtain⟨lb,G,c1,l1,h1,h2⟩:=Be h;have HL:=h_ (SE ω w _ lb v.logs h1 ho.logs);have HE:Hid (v.open_=(v.logs.open_.1,{v with logs:=v.logs.open_.2})):=h_ rfl
 have HF:=h_ h2;rw[HE.o];generalize v.logs.open_=r at *
 unfold pV at c1;go_enter func319,ntmps319;go_wp2_with (go_at_call 355;refine(HL.o).mono ?_;rintro e w1 ⟨rfl,hx⟩;have HS:=h_ hx);go_ret;exact⟨rfl,HF.o _ _ _ HS.o⟩
theorem LM (b:Nat)(v:PVw)(h:Sat ω w (vwH b v*F))(ho:v.ok):
  Calls prog 253 #[.pointer b] w (Rets ω F (.int .i64 v.keep.1) (vwH b v.keep.2)):=by
 obtain⟨lb,G,c1,l1,h1,h2⟩:=Be h;have HL:=h_ (SF ω w _ lb v.logs h1 ho.logs);have HE:Hid (v.keep=(v.logs.keep.1,{v with logs:=v.logs.keep.2})):=h_ rfl
 have HF:=h_ h2;rw[HE.o];generalize v.logs.keep=r at *
 unfold pV at c1;go_enter func253,ntmps253;go_wp2_with (go_at_call 321;refine(HL.o).mono ?_;rintro e w1 ⟨rfl,hx⟩;have HS:=h_ hx);go_ret;exact⟨rfl,HF.o _ _ _ HS.o⟩
theorem Rd (b:Nat)(v:PVw)(h:Sat ω w (vwH b v*F))(ho:v.ok):
  Calls prog 255 #[.pointer b] w (Rets ω F (.int .i64 v.drop.1) (vwH b v.drop.2)):=by
 obtain⟨lb,G,c1,l1,h1,h2⟩:=Be h;have HL:=h_ (Lh ω w _ lb v.logs h1 ho.logs);have HE:Hid (v.drop=(v.logs.drop.1,{v with logs:=v.logs.drop.2})):=h_ rfl
 have HF:=h_ h2;rw[HE.o];generalize v.logs.drop=r at *
 unfold pV at c1;clear h h1 h2 ho HE;go_enter func255,ntmps255;go_wp2_with (go_at_call 323;refine(HL.o).mono ?_;rintro e w1 ⟨rfl,hx⟩;have HS:=h_ hx;clear hx);go_ret;exact⟨rfl,HF.o _ _ _ HS.o⟩
theorem Hn (b:Nat)(v:PVw)(h:Sat ω w (vwH b v*F))(ho:v.ok):
  Calls prog 132 #[.pointer b] w (RetR ω (vwH b v*F) 54 2 v.logs.cells.length (vS v.logs.cells)):=by
 obtain⟨lb,G,c1,l1,h1,h2⟩:=Be h;have HL:=h_ (PT ω w _ lb v.logs h1 ho.logs);have HF:Hid (∀w' R,Sat ω w' (R*(lvH lb v.logs*(G*F)))→Sat ω w' (R*(vwH b v*F))):=h_ (fun w' R h3=>(h2 w' v.logs (R*F) (h3.perm (by ac_rfl))).swap)
 generalize v.logs.cells=r at *
 unfold pV at c1;go_enter func132,ntmps132;go_wp2_with (go_at_call 161;refine(HL.o).mono ?_;rintro e w1 ⟨A,c,rfl,hx⟩;have HS:=h_ hx);go_ret;exact⟨A,c,rfl,HF.o _ _ HS.o⟩
theorem OV (b:Nat)(v:PVw)(h:Sat ω w (vwH b v*F))(ho:v.ok):
  Calls prog 140 #[.pointer b] w fun e w'=>e=.returned (.slice none 0 0)∧Only Nob w w':=by
 obtain⟨lb,G,c1,l1,h1,h2⟩:=Be h;have HL:=h_ (PS ω w _ lb v.logs h1 ho.logs);unfold pV at c1;go_enter func140,ntmps140;go_wp2_with (go_at_call 171;refine(HL.o).mono ?_;rintro e w1 ⟨rfl,hx⟩;have HS:=h_ hx);go_ret;exact⟨rfl,HS.o⟩
theorem GN (b:Nat)(v:PVw)(h:Sat ω w (vwH b v*F)):
  Calls prog 130 #[.pointer b] w fun e w'=>e=.returned v.need∧w'=w:=by
 obtain⟨lb,fA,fc,oA,oc,hx⟩:=CY h;have c1:=hx.assoc.blk.c 3;have l1:=hx.assoc.blk.lt;generalize v.need=n at *
 go_enter func130,ntmps130;go_wp2;go_ret;exact⟨rfl,rfl⟩
theorem OT (b:Nat)(v:PVw)(h:Sat ω w (vwH b v*F))(ho:v.ok)(p x:Nat)(hp:p≤1000000):
  Calls prog 248 #[.pointer b,p,υ x] w (Rets ω F (.int .i64 ((v.write p x).1:Int)) (vwH b (v.write p x).2)):=by
 have HI:=EN h p;have H:=h_ h;cases hi:v.is p with
 |false =>
  rw[show v.write p x=(2,v) by unfold PVw.write;rw[if_pos hi]]
  rw[hi] at HI;go_enter func248,ntmps248;go_wp2_with (go_at_call 218;refine(HI.o _ (Only.refl _ _)).mono ?_;rintro e w1 ⟨rfl,rfl⟩);go_ret;exact⟨rfl,H.o⟩
 |true =>
  rw[show v.write p x=((v.logs.put p x).1,{v with logs:=(v.logs.put p x).2}) by unfold PVw.write;rw[if_neg (by simp[hi])]]
  rw[hi] at HI;obtain⟨lb,G,c1,l1,h1,h2⟩:=Be h;have HL:=h_ (Tm ω w _ lb v.logs h1 ho.logs p x hp);have HF:=h_ h2;generalize v.logs.put p x=r at *
  unfold pV at c1;go_enter func248,ntmps248;go_wp2_with (first
   |(go_at_call 218;refine(HI.o _ (Only.refl _ _)).mono ?_;rintro e w1 ⟨rfl,rfl⟩)
   |(go_at_call 259;refine(HL.o).mono ?_;rintro e w1 ⟨rfl,hx⟩;have HS:=h_ hx))
  go_ret;exact⟨rfl,HF.o _ _ _ HS.o⟩
end
theorem PVw.is_lt {v:PVw}{p:Nat}(h:v.is p=true):1≤p∧p<v.facts.length:=by
 unfold PVw.is at h;simpa using h
structure VwC (w:World) (b g fc n p:Nat) (o:Option Nat):Prop where
 facts:w.cell? b=some (.slice (some ⟨g,0,none⟩) n fc)
 word:w.cell? (κ g (p*2))=some (.int .u64 ((o.getD 0:Nat):Int))
 known:w.cell? (κ g (p*2+1))=some (.bool o.isSome)
 lb:b<w.heap.size
 lg:g<w.heap.size
 fb:∀j,w.frozen? (κ b j)=false
 fg:∀j,w.frozen? (κ g j)=false
 nd:∃u,w.cell? (κ b 3)=some u
theorem LN {ω w:World}{F:HP}{b:Nat}{v:PVw}(h:Sat ω w (vwH b v*F)){p:Nat}(hp:p<v.facts.length):∃g fc,VwC w b g fc v.facts.length p (v.facts.getD p none):=by
 obtain⟨lb,fA,fc,oA,oc,hx⟩:=CY h;unfold vwX at hx;have h1:=hx.assoc;have h2:=h1.right.assoc;obtain⟨g,rfl,lg,hc⟩:=h2.rowAt (l:=v.facts) (f:=faV) (fun _=>rfl) none (i:=p) hp
 refine⟨g,fc,h1.blk.cell 0,hc 0 (by omega),hc 1 (by omega),h1.blk.lt,lg,h1.blk.frozen,?_,⟨_,h1.blk.cell 3⟩⟩
 rcases h2.cases with⟨h9,_⟩|⟨g',_,_,h9,_,_,_,_,_,h10⟩
 ·cases h9
 ·injection h9 with h9 _ _
  injection h9 with h9
  injection h9 with h9
  subst h9;exact h10.blk.frozen
theorem JY {ω w:World}{F:HP}{b:Nat}{v:PVw}(h:Sat ω w (vwH b v*F))(p:Nat):Sat ω (w.setCell (κ b 3) p) (vwH b {v with need:=p}*F):=by
 obtain⟨lb,fA,fc,oA,oc,hx⟩:=CY h;unfold vwX at hx;have h2:=(hx.assoc.put 3 p (cs':=#[.slice fA v.facts.length fc,.slice oA v.order.length oc,pV lb,p]) rfl).assoc';exact EO (v:={v with need:=p}) h2
def ReadPost (ω:World)(F:HP)(b:Nat)(r:Nat×Nat×PVw)(e:Ending)(w':World):Prop:=e=.returned (.tuple #[.int .u64 r.1,.int .i64 r.2.1])∧Sat ω w' (vwH b r.2.2*F)
theorem RY (ω w:World)(F:HP)(b:Nat)(v:PVw)(h:Sat ω w (vwH b v*F))(ho:v.ok)(p:Nat)(hp:p≤1000000):
  Calls prog 185 #[.pointer b,p] w (ReadPost ω F b (v.read p)):=by
 have HI:=EN h p;have H:=h_ h;cases hi:v.is p with
 |false =>
  rw[show v.read p=(0,2,v) by unfold PVw.read;rw[if_pos hi]]
  rw[hi] at HI;go_enter func185,ntmps185;go_wp2_with (go_at_call 218;refine(HI.o _ (Only.refl _ _)).mono ?_;rintro e w1 ⟨rfl,rfl⟩);go_ret2;exact⟨rfl,H.o⟩
 |true =>
  have hlt:=(PVw.is_lt hi).2;rw[hi] at HI;obtain⟨lb,G,c1,l1,h1,h2⟩:=Be h;have HL:=h_ (Tp ω w _ lb v.logs h1 ho.logs p);have HB:Hid (∀w1,Sat ω w1 (lvH lb v.logs*(G*F))→Sat ω w1 (vwH b v*F)):=h_ (fun w1 h3=>h2 w1 v.logs F h3)
  unfold pV at c1;cases hg:v.logs.get p with
  |some x =>
   rw[show v.read p=(x,0,v) by unfold PVw.read;rw[if_neg (by simp[hi]),hg]]
   rw[hg] at HL;simp only[Option.getD_some,Option.isSome_some] at HL;go_enter func185,ntmps185;go_wp2_with (first
    |(go_at_call 218;refine(HI.o _ (Only.refl _ _)).mono ?_;rintro e w1 ⟨rfl,rfl⟩)
    |(go_at_call 219;refine(HL.o).mono ?_;rintro e w1 ⟨rfl,hx⟩;have HS:=h_ (HB.o _ hx)))
   go_ret2;exact⟨rfl,HS.o⟩
  |none =>
   rw[hg] at HL;simp only[Option.getD_none,Option.isSome_none] at HL;have HC:Hid (∀w1,Sat ω w1 (vwH b v*F)→∃g fc,VwC w1 b g fc v.facts.length p (v.facts.getD p none)):=h_ (fun w1 h3=>LN h3 hlt)
   have HN:Hid (∀w1,Sat ω w1 (vwH b v*F)→Sat ω (w1.setCell (κ b 3) p) (vwH b {v with need:=p}*F)):=h_ (fun w1 h3=>JY h3 p)
   cases hf:v.facts.getD p none with
   |some x =>
    rw[show v.read p=(x,0,v) by unfold PVw.read;rw[if_neg (by simp[hi]),hg];simp only;rw[hf]]
    rw[hf] at HC;generalize v.facts.length=n at *
    go_enter func185,ntmps185;go_wp2_with (first
     |(go_at_call 218;refine(HI.o _ (Only.refl _ _)).mono ?_;rintro e w1 ⟨rfl,rfl⟩)
     |(go_at_call 219;refine(HL.o).mono ?_;rintro e w1 ⟨rfl,hx⟩;have hy:=HB.o _ hx;obtain⟨g,fc,d1,d2,d3,d4,d5,d6,d7,⟨u,d8⟩⟩:=HC.o _ hy;simp only[Option.getD_some,Option.isSome_some] at d2 d3;have HS:=h_ hy))
    go_ret2;exact⟨rfl,HS.o.junk _⟩
   |none =>
    rw[show v.read p=(0,11,{v with need:=p}) by unfold PVw.read;rw[if_neg (by simp[hi]),hg];simp only;rw[hf]]
    rw[hf] at HC;generalize v.facts.length=n at *
    go_enter func185,ntmps185;go_wp2_with (first
     |(go_at_call 218;refine(HI.o _ (Only.refl _ _)).mono ?_;rintro e w1 ⟨rfl,rfl⟩)
     |(go_at_call 219;refine(HL.o).mono ?_;rintro e w1 ⟨rfl,hx⟩;have hy:=HB.o _ hx;obtain⟨g,fc,d1,d2,d3,d4,d5,d6,d7,⟨u,d8⟩⟩:=HC.o _ hy;simp only[Option.getD_none,Option.isSome_none] at d2 d3;have HS:=h_ hy))
    go_ret2;exact⟨rfl,HN.o _ HS.o |>.junk _⟩
theorem LR:∀(l:List (Option Nat)) (i x:Nat),i<l.length→((vFa l).set (i*2) (.int .u64 x)).set (i*2+1) (.bool true)=vFa (l.set i (some x))
 | [],i,x,h=>absurd h (by simp)
 |o::l,0,x,_=>by simp[vFa,faV]
 |o::l,i+1,x,h=>by
  have:=LR l i x (by simpa using h)
  simp only[vFa,List.flatMap_cons,faV,List.cons_append,List.nil_append,Nat.succ_mul,List.set_cons_succ] at this ⊢;rw[this]
theorem Rc (ω w:World)(F:HP)(b:Nat)(v:PVw)(h:Sat ω w (vwH b v*F))(ho:v.ok)(p x:Nat):
  Calls prog 197 #[.pointer b,p,υ x] w (Rets ω F (.int .i64 ((v.know p x).1:Int)) (vwH b (v.know p x).2)):=by
 have HI:=EN h p;have H:=h_ h;cases hi:v.is p with
 |false =>
  rw[show v.know p x=(2,v) by unfold PVw.know;rw[if_pos hi]]
  rw[hi] at HI;go_enter func197,ntmps197;go_wp2_with (go_at_call 218;refine(HI.o _ (Only.refl _ _)).mono ?_;rintro e w1 ⟨rfl,rfl⟩);go_ret;exact⟨rfl,H.o⟩
 |true =>
  have hlt:=(PVw.is_lt hi).2;rw[hi] at HI;cases hf:v.facts.getD p none with
  |some y =>
   obtain⟨g,fc,d1,d2,d3,d4,d5,d6,d7,_⟩:=LN h hlt;rw[hf] at d2 d3;simp only[Option.getD_some,Option.isSome_some] at d2 d3;rw[show v.know p x=(if y≠x then 14 else 0,v) by unfold PVw.know;rw[if_neg (by simp[hi])];rw[hf]]
   generalize v.facts.length=n at *
   by_cases hyx:y=x
   ·subst hyx;rw[if_neg (by simp)]
    go_enter func197,ntmps197;go_wp2_with (go_at_call 218;refine(HI.o _ (Only.refl _ _)).mono ?_;rintro e w1 ⟨rfl,rfl⟩);go_ret;exact⟨rfl,H.o.junk _⟩
   ·rw[if_pos hyx];have e1:((y:Int) != (x:Int))=true:=by simp;omega
    have e2:((y:Int)==(x:Int))=false:=by simp;omega
    go_enter func197,ntmps197;go_wp2_with (go_at_call 218;refine(HI.o _ (Only.refl _ _)).mono ?_;rintro e w1 ⟨rfl,rfl⟩);go_ret;exact⟨rfl,H.o.junk _⟩
  |none =>
   obtain⟨lb,fA,fc,oA,oc,hx⟩:=CY h;unfold vwX at hx;have h1:=hx.assoc;have h2:=h1.right.assoc;obtain⟨g,rfl,d5,hc⟩:=h2.rowAt (l:=v.facts) (f:=faV) (fun _=>rfl) none (i:=p) hlt
   have d1:=h1.blk.c 0;have d9:=h1.blk.c 1;have d2:w.cell? (κ g (p*2))=some (.int .u64 0):=by have:=hc 0 (by omega);rw[hf] at this;exact this
   have d3:w.cell? (κ g (p*2+1))=some (.bool false):=by have:=hc 1 (by omega);rw[hf] at this;exact this
   have d4:=h1.blk.lt;have d6:=h1.blk.frozen;have d7:∀j,w.frozen? (κ g j)=false:=by
    rcases h2.cases with⟨h9,_⟩|⟨g',_,_,h9,_,_,_,_,_,h10⟩
    ·cases h9
    ·injection h9 with h9 _ _
     injection h9 with h9
     injection h9 with h9
     subst h9;exact h10.blk.frozen
   have d8:g≠b:=by
    rcases h2.cases with⟨h9,_⟩|⟨g',cap,cur,h9,_,_,_,_,h10,_⟩
    ·cases h9
    ·have hh:Sat ω w (row 267 2 (.slice (some ⟨g,0,none⟩) v.facts.length fc) v.facts.length (vFa v.facts)*(bk b 251 #[.slice (some ⟨g,0,none⟩) v.facts.length fc,.slice oA v.order.length oc,pV lb,v.need]*(row 3 1 (.slice oA v.order.length oc) v.order.length (vI v.order)*lvH lb v.logs*F))):=hx.perm (by ac_rfl)
     rcases hh.cases with⟨h8,_⟩|⟨g2,_,_,h8,_,_,_,_,_,h11⟩
     ·cases h8
     ·injection h8 with h8 _ _
      injection h8 with h8
      injection h8 with h8
      subst h8;exact h11.ne
   rw[show v.know p x=(0,{v with facts:=v.facts.set p (some x),order:=v.order++[p]}) by unfold PVw.know;rw[if_neg (by simp[hi])];rw[hf]]
   have hm:v.order.length≤256:=Nat.le_trans ho.order ho.facts;obtain⟨i0,hi0,hz⟩:=Option.map_eq_some_iff.1 Et;simp only[Prod.mk.injEq] at hz;obtain⟨hz0,hz1,hz2⟩:=hz;have HIF:=h_ hi0;have HZ0:=h_ hz0;have HZ1:=h_ hz1;have HZ2:=h_ hz2;have HON:Hid (∀u∈[Value.int .i64 p],u.oneCell'=true):=h_ (by intro u hu;simp at hu;subst hu;rfl)
   obtain⟨G,hG⟩:∃G,G=row 267 2 (.slice (some ⟨g,0,none⟩) v.facts.length fc) v.facts.length (vFa (v.facts.set p (some x)))*(lvH lb v.logs*F):=⟨_,rfl⟩;obtain⟨m,hmm⟩:∃m,v.order.length=m:=⟨_,rfl⟩;have HW:Hid (Sat ω ((w.setCell (κ g (p*2)) (.int .u64 x)).setCell (κ g (p*2+1)) (.bool true)) (row 3 1 (.slice oA m oc) m (vI v.order)*(bk b 251 #[.slice (some ⟨g,0,none⟩) v.facts.length fc,.slice oA m oc,pV lb,v.need]*G))):=h_ (by
    have h3:Sat ω w (row 267 2 (.slice (some ⟨g,0,none⟩) v.facts.length fc) v.facts.length (vFa v.facts)*(bk b 251 #[.slice (some ⟨g,0,none⟩) v.facts.length fc,.slice oA v.order.length oc,pV lb,v.need]*(row 3 1 (.slice oA v.order.length oc) v.order.length (vI v.order)*(lvH lb v.logs*F)))):=hx.perm (by ac_rfl)
    have h4:=(h3.rowStore (j:=p*2) (by omega) (.int .u64 x)).rowStore (j:=p*2+1) (by omega) (.bool true)
    rw[LR _ _ _ hlt,hmm] at h4;rw[hG];exact h4.perm (by ac_rfl))
   have HRD:Hid (∀(w1:World) q,w1.heap.size=q→Reads (w1.alloc (.cells #[p] 3)) (q+1) 1 (some ⟨q,0,none⟩) 1 [.int .i64 p]):=h_ (fun w1 q hq=>by
    have h9:=Reads.of_blk (size:=1) (n:=1) (Blk.new w1 3 #[p]) rfl;rw[World.size_alloc] at h9;subst hq;exact h9)
   have HFI:Hid (∀w2 A' c',Sat ω w2 (row 3 1 (.slice A' (m+1) c') (m+1) (vI v.order++[.int .i64 p])*(bk b 251 #[.slice (some ⟨g,0,none⟩) v.facts.length fc,.slice A' (m+1) c',pV lb,v.need]*G))→Sat ω w2 (vwH b {v with facts:=v.facts.set p (some x),order:=v.order++[p]}*F)):=h_ (fun w2 A' c' h2=>by
    refine EO (v:={v with facts:=v.facts.set p (some x),order:=v.order++[p]}) (lb:=lb) (fA:=some ⟨g,0,none⟩) (fc:=fc) (oA:=A') (oc:=c') ?_
    unfold vwX;simp only[List.length_set,List.length_append,List.length_singleton,hmm,LQ];rw[hG] at h2;exact h2.perm (by ac_rfl))
   rw[hmm] at hm d9;generalize v.facts.length=n at *
   clear h hx h1 h2 hc hi hf ho hG hmm hi0 hz0 hz1 hz2;go_enter func197,ntmps197;go_wp2_with (first
    |(go_at_call 218;refine(HI.o _ (Only.refl _ _)).mono ?_;rintro e w1 ⟨rfl,rfl⟩)
    |(at_builtin;refine AB rfl _ _ 50 rfl 3 i0 _ 1 8 underlying50 HIF.o HZ0.o HZ1.o HZ2.o rfl (by decide) _ _ _ rfl ((HW.o.junk _).junk _) _ _ _ _ _ rfl (HRD.o _ _ (by simp)) HON.o (by unfold maxLen;omega) (by omega) ?_;intro A' c' w2 hs;have kb:=hs.right.blk;have q1:=kb.cell 1;have qf:=kb.frozen;have ql:=kb.lt;have HS:=h_ (hs.swap.put 1 (.slice A' (m+1) c') (cs':=#[.slice (some ⟨g,0,none⟩) n fc,.slice A' (m+1) c',pV lb,v.need]) rfl).swap))
   go_ret;exact⟨rfl,HFI.o _ _ _ HS.o⟩
theorem Sat.made {ω w w':World}{F:HP}{e:TypeId}{size n m:Nat}{xs:List Value}(h:Sat ω w F)(ho:w'.ownsRow 0 e size (.slice w.heap.size n m) n xs)(hg:w.grownBy w' none):Sat ω w' (row e size (.slice w.heap.size n m) n xs*F) :=
 (h.nil e size).grown (v':=.slice w.heap.size n m) (n':=n) (xs':=xs) hg (Or.inr rfl) ho
def knownK (v:PVw)(k:Nat):List (Nat×Nat):=(v.order.take k).map fun p=>(p,(v.facts.getD p none).getD 0)
theorem IV (v:PVw){k:Nat}(hk:k<v.order.length):knownK v (k+1)=knownK v k++[(v.order.getD k 0,(v.facts.getD (v.order.getD k 0) none).getD 0)]:=by
 unfold knownK;rw[List.take_succ_eq_append_getElem hk,List.map_append,gD (l:=v.order),List.getElem?_eq_getElem hk];rfl
theorem KU (v:PVw):knownK v v.order.length=v.known:=by
 unfold knownK PVw.known;rw[List.take_length]
theorem OU (ω w:World)(F:HP)(b:Nat)(v:PVw)(h:Sat ω w (vwH b v*F))(ho:v.ok):
  Calls prog 146 #[.pointer b] w (RetR ω (vwH b v*F) 54 2 v.known.length (vS v.known)):=by
 have H:=h_ h;obtain⟨N,hN⟩:∃N,v.order.length=N:=⟨_,rfl⟩;have hN6:N≤256:=by have:=ho.order;have:=ho.facts;omega
 obtain⟨lb,fA,fc,oA,oc,hx⟩:=CY h;unfold vwX at hx;have c1:w.cell? (κ b 1)=some (.slice oA N oc):=hN▸hx.assoc.blk.cell 1;have l1:=hx.assoc.blk.lt;have HX:Hid (Sat ω w (bk b 251 #[.slice fA v.facts.length fc,.slice oA N oc,pV lb,v.need]*(row 267 2 (.slice fA v.facts.length fc) v.facts.length (vFa v.facts)*(row 3 1 (.slice oA N oc) N (vI v.order)*(lvH lb v.logs*F))))):=h_ (hN▸hx.perm (by ac_rfl))
 have HB:Hid (∀w1 R,Sat ω w1 (R*(bk b 251 #[.slice fA v.facts.length fc,.slice oA N oc,pV lb,v.need]*(row 267 2 (.slice fA v.facts.length fc) v.facts.length (vFa v.facts)*(row 3 1 (.slice oA N oc) N (vI v.order)*(lvH lb v.logs*F)))))→Sat ω w1 (R*(vwH b v*F))):=h_ (fun w1 R h1=>by
  rw[←hN] at h1;exact(EO (v:=v) (lb:=lb) (fA:=fA) (fc:=fc) (oA:=oA) (oc:=oc) (F:=R*F) (h1.perm (by unfold vwX;ac_rfl))).swap)
 have HRW:Hid (∀w1 R (k:Nat),Sat ω w1 (R*(bk b 251 #[.slice fA v.facts.length fc,.slice oA N oc,pV lb,v.need]*(row 267 2 (.slice fA v.facts.length fc) v.facts.length (vFa v.facts)*(row 3 1 (.slice oA N oc) N (vI v.order)*(lvH lb v.logs*F)))))→k<N→∃go gf,oA=some ⟨go,0,none⟩∧fA=some ⟨gf,0,none⟩∧go<w1.heap.size∧gf<w1.heap.size∧b<w1.heap.size∧w1.cell? b=some (.slice (some ⟨gf,0,none⟩) v.facts.length fc)∧w1.cell? (κ go k)=some (.int .i64 ((v.order.getD k 0:Nat):Int))∧w1.cell? (κ gf (v.order.getD k 0*2))=some (.int .u64 (((v.facts.getD (v.order.getD k 0) none).getD 0:Nat):Int))∧v.order.getD k 0<v.facts.length):=h_ (fun w1 R k h1 hk=>by
  have hk':k<v.order.length:=hN▸hk;have hp:v.order.getD k 0<v.facts.length:=by
   rw[gD,List.getElem?_eq_getElem hk'];exact ho.places _ (List.getElem_mem hk')
  have h2:=h1.right;have h3:=h2.right;have h4:=h3.right;rw[←hN] at h4;obtain⟨go,e1,lgo,hc1⟩:=h4.rowAt (l:=v.order) (f:=inV) (fun _=>rfl) 0 (i:=k) hk'
  obtain⟨gf,e2,lgf,hc2⟩:=h3.rowAt (l:=v.facts) (f:=faV) (fun _=>rfl) none (i:=v.order.getD k 0) hp
  have h5:=hc1 0 (by omega)
  rw[Nat.mul_one,Nat.add_zero] at h5;have h6:=h2.blk.cell 0;subst e2;exact⟨go,gf,e1,rfl,lgo,lgf,h2.blk.lt,h6,h5,hc2 0 (by omega),hp⟩)
 have HOO:Hid (∀w1 R,Sat ω w1 (R*(bk b 251 #[.slice fA v.facts.length fc,.slice oA N oc,pV lb,v.need]*(row 267 2 (.slice fA v.facts.length fc) v.facts.length (vFa v.facts)*(row 3 1 (.slice oA N oc) N (vI v.order)*(lvH lb v.logs*F)))))→w1.cell? (κ b 1)=some (.slice oA N oc)∧b<w1.heap.size):=h_ (fun w1 R h1=>⟨h1.right.blk.cell 1,h1.right.blk.lt⟩)
 have HKS:Hid (∀k,k<N→knownK v (k+1)=knownK v k++[(v.order.getD k 0,(v.facts.getD (v.order.getD k 0) none).getD 0)]):=h_ (fun k hk=>IV v (hN▸hk))
 have HKL:Hid (v.known=knownK v N∧v.known.length=N):=h_ (by
  rw[←hN];exact⟨(KU v).symm,by unfold PVw.known;rw[List.length_map]⟩)
 obtain⟨i0,hi0,hz⟩:=Option.map_eq_some_iff.1 CK;simp only[Prod.mk.injEq] at hz;obtain⟨hz0,hz1,hz2⟩:=hz;have HI:=h_ hi0;have HZ0:=h_ hz0;have HZ1:=h_ hz1;have HZ2:=h_ hz2;have hby:i0.bytes*N≤281474976710656:=by rw[hz2];omega
 rw[HKL.o.2,HKL.o.1];generalize v.facts.length=n at *
 generalize bk b 251 #[.slice fA n fc,.slice oA N oc,pV lb,v.need]*(row 267 2 (.slice fA n fc) n (vFa v.facts)*(row 3 1 (.slice oA N oc) N (vI v.order)*(lvH lb v.logs*F)))=G at *
 go_enter func146,ntmps146;go_wp2_with (at_make;refine wpList_make_own _ rfl _ _ 49 rfl 0 54 i0 _ 2 underlying49 HI.o HZ0.o HZ1.o _ _ _ N rfl rfl (by omega) hby (by unfold maxLen;omega) (by omega) ?_;intro w1 hown hgrow;have hs:=HX.o.made hown hgrow;obtain⟨m1,m2⟩:=HOO.o _ _ hs;have HS:=h_ hs)
 have H0:Hid (knownK v 0=[]):=h_ rfl;go_loopw [3,17] (fun s i wr=>∃(k:Nat) (A2:Option Addr) (c2:Nat),k≤N∧i=.int .i64 k∧s=.slice A2 k c2∧Hid (Sat ω wr (row 54 2 (.slice A2 k c2) k (vS (knownK v k))*G))) (fun _ i _=>N-(intOf i).toNat)
 case atStart=>exact⟨0,_,_,by omega,rfl,rfl,HS.o⟩
 case round =>
  obtain⟨k,A2,c2,hk,rfl,rfl,HX⟩:=hrel;by_cases hlt:k<N
  ·obtain⟨go,gf,rfl,rfl,r1,r2,r3,r4,r5,r6,r7⟩:=HRW.o _ _ k HX.o hlt;have HS1:=h_ (HKS.o k hlt);generalize v.order.getD k 0=p at *
   generalize (v.facts.getD p none).getD 0=x at *
   have HAP:Hid (∀o,Sat ω (wr.alloc o) (row 54 2 (.slice A2 k c2) k (vS (knownK v k))*G)):=h_ (fun o=>HX.o.junk o)
   have HRD:Hid (Reads (wr.alloc (.cells #[p,υ x] 54)) (wr.heap.size+1) 2 (some ⟨wr.heap.size,0,none⟩) 1 [.int .i64 p,.int .u64 x]):=h_ (by
    have h9:=Reads.of_blk (size:=2) (n:=1) (Blk.new wr 54 #[p,υ x]) rfl;rw[World.size_alloc] at h9;exact h9)
   have HON:Hid (∀u∈[Value.int .i64 p,.int .u64 x],u.oneCell'=true):=h_ (by intro u hu;simp at hu;rcases hu with rfl|rfl<;>rfl)
   have HSN:Hid (vS (knownK v k)++[Value.int .i64 p,.int .u64 x]=vS (knownK v (k+1))):=h_ (by rw[HS1.o,Dy])
   go_wp2_with (at_builtin;refine AB rfl _ _ 49 rfl 54 i0 _ 2 16 underlying49 HI.o HZ0.o HZ1.o HZ2.o rfl (by decide) _ _ _ rfl (HAP.o _) _ _ _ _ _ rfl HRD.o HON.o (by unfold maxLen;omega) (by omega) ?_;intro A' c' w2 hs;rw[HSN.o] at hs;have HS:=h_ hs)
   exact⟨⟨k+1,A',c',by omega,by go_num,rfl,HS.o⟩,by simp[intOf];omega⟩
  ·obtain rfl:k=N:=by omega
   go_wp2;go_ret;exact⟨_,_,rfl,HB.o _ _ HX.o⟩
section
section
variable {P : Program}
theorem Ab {ω w:World}{F:HP}{ops:Array Oper}{o:Oper}{a:Act}{K:Act→World→Prop}{Q:Exit→Act→World→Prop}{E:Prop}(hgd:o.guard=none)(l c:Operand)(t:TypeId)(hop:o.op=Op.makeSlice t l c)
  (e:TypeId) (i:TypeInfo) (z:Value) (size:Nat) (h1:P.underlying t=some (.slice e)) (h2:P.info? e=some i) (h3:i.zero=some z) (h4:i.size=size)
  (kl kc:IntKind) (L C:Int) (n:Nat) (hl:a.eval l=.int kl L) (hc:a.eval c=.int kc C) (hL:L=(n:Int)) (hC:C=(n:Int)) (b2:i.bytes*n≤281474976710656) (b3:n≤maxLen) (hs:Sat ω w F)
  (hK:∀w',Sat ω w' (row e size (.slice w.heap.size n n) n (madeCells z.cells (n*size)).toList*F)→K (a.put o.dst (.slice w.heap.size n n)) w'):
  if Region.wanted o (yielded ops a.tmps)=true then Oper.wp P o a w K Q else E:=by
 have hw:Region.wanted o (yielded ops a.tmps)=true:=by simp[Region.wanted,hgd]
 rw[if_pos hw];obtain⟨w',hrun,r1,r2⟩:=run_make_full (P:=P) w 0 t e i z size h1 h2 h3 h4 kl kc n b2 b3 (Nat.zero_le _);subst hL;subst hC;unfold Oper.wp;simp[execOp,hop,hl,hc,hrun,Result.andThen];exact hK w' (hs.made r1 r2)
end
theorem KS (n:Nat):(madeCells #[Value.int .u64 0,.bool false] (n*2)).toList=vFa (List.replicate n none):=by
 apply List.ext_getElem?;intro k;have hk:k=k / 2*2+k%2:=by omega
 rcases Nat.lt_or_ge k (n*2) with h|h
 ·have h1:=CL faV 2 (fun _=>rfl) none (List.replicate n none) (k / 2) (k%2) (by rw[List.length_replicate];omega) (by omega)
  rw[←hk] at h1;unfold vFa;rw[h1];have h2:(List.replicate n (none:Option Nat)).getD (k / 2) none=none:=by
   rw[gD,List.getElem?_replicate];split<;>rfl
  rw[h2];rcases(by omega:k%2=0∨k%2=1) with e|e<;>simp[madeCells,h,e,faV]
 ·rw[List.getElem?_eq_none (by simp[madeCells];omega),List.getElem?_eq_none]
  have:(vFa (List.replicate n none)).length=n*2:=by
   unfold vFa;rw[List.length_flatMap];simp[faV]
  omega
theorem Na:(prog.info? 267).map (fun i=>(i.zero,i.size,i.bytes))=some (some (.agg #[υ 0,.bool false]),2,16):=by kernel_rfl
theorem TR (ω w:World)(F:HP)(h:Sat ω w F)(words most:Nat):
  Calls prog 150 #[words,most] w (RetP ω F fun b=>vwH b (PVw.new words most)):=by
 obtain⟨n,hn⟩:∃n,max 32 (min words 256)=n:=⟨_,rfl⟩;have hnI:max (32:Int) (min (words:Int) 256)=(n:Int):=by omega
 have hn6:n≤256:=by omega
 obtain⟨i0,hi0,hz⟩:=Option.map_eq_some_iff.1 Na;simp only[Prod.mk.injEq] at hz;obtain⟨hz0,hz1,hz2⟩:=hz;have HIF:=h_ hi0;have HZ0:=h_ hz0;have HZ1:=h_ hz1;have hby:i0.bytes*n≤281474976710656:=by rw[hz2];omega
 have H:=h_ h;have HN:=h_ (fun(w:World) (F:HP) (h:Sat ω w F)=>Tn ω w F h most)
 have HMF:Hid (∀w1 g F',Sat ω w1 (row 267 2 (.slice (some ⟨g,0,none⟩) n n) n (madeCells (Value.agg #[υ 0,.bool false]).cells (n*2)).toList*F')→Sat ω w1 (row 267 2 (.slice (some ⟨g,0,none⟩) n n) n (vFa (List.replicate n none))*F')):=h_ (fun w1 g F' h1=>by
  have e:(Value.agg #[υ 0,.bool false]).cells=#[Value.int .u64 0,.bool false]:=rfl;rw[e,KS] at h1;exact h1)
 have HFI:Hid (∀w1 g lb,Sat ω w1 (lvH lb (PLv.new most)*(row 267 2 (.slice (some ⟨g,0,none⟩) n n) n (vFa (List.replicate n none))*F))→Sat ω (w1.alloc (.cells #[.slice (some ⟨g,0,none⟩) n n,.slice none 0 0,.pointer (some ⟨lb,0,none⟩),ι 0] 251)) (vwH w1.heap.size (PVw.new words most)*F)):=h_ (fun w1 g lb h1=>by
  have h2:=((h1.nil 3 1).bkNew (t:=251) (cs:=#[.slice (some ⟨g,0,none⟩) n n,.slice none 0 0,.pointer (some ⟨lb,0,none⟩),ι 0]) rfl);refine EO (v:=PVw.new words most) (lb:=lb) (fA:=some ⟨g,0,none⟩) (fc:=n) (oA:=none) (oc:=0) ?_;unfold vwX PVw.new;simp only[List.length_replicate,hn,List.length_nil];exact h2.perm (by
   have e:vI []=[]:=rfl;rw[e];unfold pV;ac_rfl))
 go_enter func150,ntmps150;go_wp2;refine wp_region_any (by kernel_rfl) ?_
 try (change wpAny _ _ _ _ _ _ _ (World.drew _))
 refine tF 0 ?_ rfl ?_ (tF 4 ?_ rfl ?_ (tF 1 ?_ rfl ?_ (tF 2 ?_ rfl ?_ ?_)));all_goals (try (
  intro w;go_simp<;>(try with_reducible rfl)))
 refine rF [3,5] ?_;refine AllReady.cons rfl (fun K hK=>?_) ?_
 ·refine Ab rfl _ _ 248 rfl 267 i0 _ 2 underlying248 HIF.o HZ0.o HZ1.o _ _ _ _ n rfl rfl rfl rfl hby (by unfold maxLen;omega) H.o.drew ?_;intro w2 hs;have HM:=h_ (HMF.o _ _ _ hs)
  refine hK _ _ ?_;refine oF 5 rfl fun K hK=>?_
  go_simp;go_at_call 175;refine(HN.o _ _ HM.o).mono ?_;rintro e w1 ⟨lb,rfl,hx⟩;have HL:=h_ hx;refine hK _ _ ?_;refine tF 6 ?_ rfl ?_ ?_;all_goals (try (
   intro w;go_simp<;>(try with_reducible rfl)))
  refine oF 7 rfl fun K hK=>?_
  go_simp;refine hK _ _ ?_;refine tF 8 ?_ rfl ?_ ?_;all_goals (try (
   intro w;go_simp<;>(try with_reducible rfl)))
  refine dF ?_;go_wp2;go_ret;exact⟨_,rfl,HFI.o _ _ _ HL.o⟩
 refine nF rfl fun K hK=>?_
 ·go_simp;go_at_call 175;refine(HN.o _ _ H.o.drew).mono ?_;rintro e w1 ⟨lb,rfl,hx⟩;have HL:=h_ hx;refine hK _ _ ?_;refine oF 3 rfl fun K hK=>?_
  refine Ab rfl _ _ 248 rfl 267 i0 _ 2 underlying248 HIF.o HZ0.o HZ1.o _ _ _ _ n rfl rfl rfl rfl hby (by unfold maxLen;omega) HL.o ?_;intro w2 hs;have HM:=h_ (HMF.o _ _ _ hs)
  refine hK _ _ ?_;refine tF 6 ?_ rfl ?_ ?_;all_goals (try (
   intro w;go_simp<;>(try with_reducible rfl)))
  refine oF 7 rfl fun K hK=>?_
  go_simp;refine hK _ _ ?_;refine tF 8 ?_ rfl ?_ ?_;all_goals (try (
   intro w;go_simp<;>(try with_reducible rfl)))
  refine dF ?_;go_wp2;go_ret;exact⟨_,rfl,HFI.o _ _ _ HM.o.swap⟩
end
section
variable (ω w : World) (F : HP)
def rdH (b:Nat)(l:List (Nat×Nat)):HP:=ex fun A=>ex fun c=>bk b 234 #[ι 16,.slice A l.length c]*row 148 2 (.slice A l.length c) l.length (vS l)
theorem Jt {ω w:World}{F:HP}{b:Nat}{l:List (Nat×Nat)}(h:Sat ω w (rdH b l*F)):∃A c,Sat ω w (bk b 234 #[ι 16,.slice A l.length c]*(row 148 2 (.slice A l.length c) l.length (vS l)*F)):=by
 obtain⟨A,h⟩:=h.of_ex;obtain⟨c,h⟩:=h.of_ex;exact⟨A,c,h.assoc⟩
theorem Js {ω w:World}{F:HP}{b:Nat}{l:List (Nat×Nat)}{A:Option Addr}{c:Nat}(h:Sat ω w (bk b 234 #[ι 16,.slice A l.length c]*(row 148 2 (.slice A l.length c) l.length (vS l)*F))):Sat ω w (rdH b l*F) :=
 Sat.to_ex A (h.assoc'.impL fun y hy=>⟨c,hy⟩)
theorem Tc (h:Sat ω w F):
  Calls prog 151 #[ι 16] w (RetP ω F fun b=>rdH b []):=by
 have H:=h_ h;go_enter func151,ntmps151;go_wp2;go_ret;exact⟨_,rfl,Js (A:=none) (c:=0) ((H.o.nil 148 2).bkNew rfl)⟩
theorem Mo {l:List (Nat×Nat)}{s k:Nat}(hk:k<l.length)(h:∀j,j<k→(l.getD j (0,0)).1≠s)(hs:(l.getD k (0,0)).1=s):rdGet l s=some (l.getD k (0,0)).2:=by
 unfold rdGet;have e:l.find? (·.1==s)=some (l.getD k (0,0)):=by
  rw[List.find?_eq_some_iff_getElem];refine⟨by simpa using hs,k,hk,?_,fun j hj=>?_⟩
  ·rw[gD,List.getElem?_eq_getElem hk];rfl
  ·have:=h j hj
   rw[gD,List.getElem?_eq_getElem (by omega)] at this
   simpa using this
 rw[e];rfl
theorem Jv {l:List (Nat×Nat)}{s:Nat}(h:∀j,j<l.length→(l.getD j (0,0)).1≠s):rdGet l s=none:=by
 unfold rdGet;have e:l.find? (·.1==s)=none:=by
  rw[List.find?_eq_none];intro x hx;obtain⟨j,hj,rfl⟩:=List.mem_iff_getElem.1 hx
  have:=h j hj
  rw[gD,List.getElem?_eq_getElem hj] at this;simpa using this
 rw[e];rfl
theorem Td (b:Nat)(l:List (Nat×Nat))(h:Sat ω w (rdH b l*F))(hl:l.length≤1000)(s:Nat):
  Calls prog 225 #[.pointer b,s] w fun e w'=>e=.returned (.tuple #[υ ((rdGet l s).getD 0:Nat),.bool (rdGet l s).isSome])∧Only Nob w w':=by
 obtain⟨A,c,h⟩:=Jt h;obtain⟨N,hN⟩:∃N,l.length=N:=⟨_,rfl⟩;have c1:w.cell? (κ b 1)=some (.slice A N c):=hN▸h.blk.cell 1;have l1:=h.blk.lt;have HRW:Hid (∀w1 (k:Nat),Only Nob w w1→k<N→∃g,A=some ⟨g,0,none⟩∧g<w1.heap.size∧w1.cell? (κ g (k*2))=some (.int .i64 ((l.getD k (0,0)).1:Int))∧w1.cell? (κ g (k*2+1))=some (.int .u64 ((l.getD k (0,0)).2:Int))):=h_ (fun w1 k ho hk=>by
  obtain⟨g,h5,h6,h7⟩:=(h.right.nob ho).rowAt (l:=l) (f:=seV) (fun _=>rfl) (0,0) (hN▸hk)
  exact⟨g,h5,h6,h7 0 (by omega),h7 1 (by omega)⟩)
 have HHI:Hid (∀k,k<N→(∀j,j<k→(l.getD j (0,0)).1≠s)→(l.getD k (0,0)).1=s→rdGet l s=some (l.getD k (0,0)).2):=h_ (fun k hk h1 h2=>Mo (hN▸hk) h1 h2)
 have HMI:Hid ((∀j,j<N→(l.getD j (0,0)).1≠s)→rdGet l s=none):=h_ (fun h1=>Jv (hN▸h1))
 rw[hN] at hl;generalize rdGet l s=R at *
 go_enter func225,ntmps225;go_wp2;go_loopw [7,13] (fun _ i wr=>∃k:Nat,k≤N∧i=.int .i64 k∧Hid (Only Nob w wr)∧Hid (∀j,j<k→(l.getD j (0,0)).1≠s)) (fun _ i _=>N-(intOf i).toNat)
 case atStart=>exact⟨0,by omega,rfl,Only.refl _ _,fun j hj=>absurd hj (by omega)⟩
 case round =>
  obtain⟨k,hk,rfl,HO,HP⟩:=hrel;by_cases hlt:k<N
  ·obtain⟨g,rfl,hg,r0,r1⟩:=HRW.o _ k HO.o hlt;have HX:=h_ (fun h2=>HHI.o k hlt HP.o h2)
   obtain⟨x1,hx1⟩:∃x1,(l.getD k (0,0)).1=x1:=⟨_,rfl⟩;obtain⟨x2,hx2⟩:∃x2,(l.getD k (0,0)).2=x2:=⟨_,rfl⟩;rw[hx1] at r0 HX;rw[hx2] at r1 HX;have HX1:=h_ hx1;by_cases he:x1=s
   ·have HE:=h_ (HX.o he);have d:((x1:Int)==(s:Int))=true:=by rw[beq_iff_eq];omega
    go_wp2;go_ret2;exact⟨by rw[HE.o];rfl,HO.o.alloc _⟩
   ·have HP2:Hid (∀j,j<k+1→(l.getD j (0,0)).1≠s):=h_ (fun j hj=>by
     rcases Nat.lt_or_ge j k with h1|h1
     ·exact HP.o j h1
     ·obtain rfl:j=k:=by omega
      rw[HX1.o];exact he)
    have d:((x1:Int)==(s:Int))=false:=by simp;omega
    go_wp2;exact⟨⟨k+1,by omega,by go_num,HO.o.alloc _,HP2.o⟩,by simp[intOf];omega⟩
  ·have HE:=h_ (HMI.o (fun j hj=>HP.o j (by omega)))
   go_wp2;go_ret2;exact⟨by rw[HE.o];rfl,HO.o⟩
theorem Jr (b:Nat)(l:List (Nat×Nat))(h:Sat ω w (rdH b l*F))(hl:l.length≤1000):
  Calls prog 105 #[.pointer b] w (RetR ω (rdH b l*F) 148 2 l.length (vS l)):=by
 obtain⟨A,c,h⟩:=Jt h;have c1:=h.blk.c 1;have lt:=h.blk.lt;have HX:Hid (Calls prog 143 #[.slice A l.length c] w (RetR ω (row 148 2 (.slice A l.length c) l.length (vS l)*(bk b 234 #[ι 16,.slice A l.length c]*F)) 148 2 l.length (vS l))):=h_ (DV ω w _ A l.length c (vS l) h.swap (by omega) (CZ _))
 have HF:Hid (∀w1 A' c',Sat ω w1 (row 148 2 (.slice A' l.length c') l.length (vS l)*(row 148 2 (.slice A l.length c) l.length (vS l)*(bk b 234 #[ι 16,.slice A l.length c]*F)))→Sat ω w1 (row 148 2 (.slice A' l.length c') l.length (vS l)*(rdH b l*F))):=h_ (fun w1 A' c' h1 =>
  (Js (A:=A) (c:=c) (F:=row 148 2 (.slice A' l.length c') l.length (vS l)*F) (h1.perm (by ac_rfl))).swap)
 generalize l.length=N at *
 go_enter func105,ntmps105;go_wp2_with (go_at_call 143;refine(HX.o).mono ?_;rintro e w1 ⟨A',c',rfl,hs⟩;have HS:=h_ hs);go_ret;exact⟨_,_,rfl,HF.o _ _ _ HS.o⟩
end
theorem Te (ω w:World)(F:HP)(b:Nat)(l:List (Nat×Nat))(h:Sat ω w (rdH b l*F))(hl:l.length≤16)(s v:Nat):
  Calls prog 195 #[.pointer b,.agg #[s,υ v]] w (Rets ω F (.int .i64 ((rdAdd l (s,v)).1:Int)) (rdH b (rdAdd l (s,v)).2)):=by
 have H:=h_ h;have d0:¬(s:Int)<0:=by omega
 obtain⟨X,hX⟩:∃X,X=rdAdd l (s,v):=⟨_,rfl⟩;rw[←hX];unfold rdAdd at hX;simp only at hX;by_cases h1:16≤s
 ·rw[if_pos (Or.inl h1)] at hX;have d1:(16:Int)≤(s:Int):=by omega
  subst hX;go_enter func195,ntmps195;go_wp2;go_ret;exact⟨rfl,H.o.junk _⟩
 have d1:¬(16:Int)≤(s:Int):=by omega
 by_cases h2:4611686018427387904≤v
 ·rw[if_pos (Or.inr h2)] at hX;have d2:(4611686018427387904:Int)≤(v:Int):=by omega
  subst hX;go_enter func195,ntmps195;go_wp2;go_ret;exact⟨rfl,H.o.junk _⟩
 have d2:¬(4611686018427387904:Int)≤(v:Int):=by omega
 rw[if_neg (by omega)] at hX
 have HG:Hid (∀o,Calls prog 225 #[.pointer b,s] (w.alloc o) fun e w'=>e=.returned (.tuple #[υ ((rdGet l s).getD 0:Nat),.bool (rdGet l s).isSome])∧Only Nob (w.alloc o) w'):=h_ (fun o=>Td ω _ F b l (h.junk o) (by omega) s)
 have HBX:Hid (∀w1,Only Nob (w.alloc (.cells #[s,υ v] 148)) w1→Sat ω w1 (bk w.heap.size 148 #[s,υ v]*(rdH b l*F))):=h_ (fun w1 ho=>((H.o.bkNew (t:=148) (cs:=#[s,υ v]) rfl).nob ho))
 have HXB:Hid (∀w1,Only Nob (w.alloc (.cells #[s,υ v] 148)) w1→w1.cell? w.heap.size=some (.int .i64 s)∧w1.cell? (κ w.heap.size 1)=some (.int .u64 v)∧w.heap.size<w1.heap.size):=h_ (fun w1 ho=>by
  have k:=(HBX.o w1 ho).blk;exact⟨k.cell 0,k.cell 1,k.lt⟩)
 cases hg:rdGet l s with
 |some y =>
  rw[hg] at hX HG;simp only[Option.getD_some,Option.isSome_some] at hX HG;by_cases hyv:y=v
  ·rw[if_neg (by omega)] at hX
   have e1:((y:Int) != (v:Int))=false:=by subst hyv;simp
   have e2:((y:Int)==(v:Int))=true:=by subst hyv;simp
   subst hX;go_enter func195,ntmps195;go_wp2_with (go_at_call 225;refine(HG.o _).mono ?_;rintro e w1 ⟨rfl,ho⟩;obtain⟨q1,q2,q3⟩:=HXB.o _ ho;have HS:=h_ (HBX.o _ ho).right);go_ret;exact⟨rfl,HS.o⟩
  ·rw[if_pos hyv] at hX;have e1:((y:Int) != (v:Int))=true:=by simp;omega
   have e2:((y:Int)==(v:Int))=false:=by simp;omega
   subst hX;go_enter func195,ntmps195;go_wp2_with (go_at_call 225;refine(HG.o _).mono ?_;rintro e w1 ⟨rfl,ho⟩;obtain⟨q1,q2,q3⟩:=HXB.o _ ho;have HS:=h_ (HBX.o _ ho).right);go_ret;exact⟨rfl,HS.o⟩
 |none =>
  rw[hg] at hX HG;simp only[Option.getD_none,Option.isSome_none] at hX HG;obtain⟨N,hN⟩:∃N,l.length=N:=⟨_,rfl⟩;have HOP:Hid (∀w1,Only Nob (w.alloc (.cells #[s,υ v] 148)) w1→∃A c,w1.cell? b=some (.int .i64 16)∧w1.cell? (κ b 1)=some (.slice A N c)∧b<w1.heap.size∧(∀j,w1.frozen? (κ b j)=false)∧Sat ω w1 (row 148 2 (.slice A N c) N (vS l)*(bk b 234 #[ι 16,.slice A N c]*(bk w.heap.size 148 #[s,υ v]*F)))):=h_ (fun w1 ho=>by
   obtain⟨A,c,h9⟩:=Jt ((HBX.o w1 ho).swap);rw[hN] at h9;exact⟨A,c,h9.blk.cell 0,h9.blk.cell 1,h9.blk.lt,h9.blk.frozen,h9.perm (by ac_rfl)⟩)
  by_cases hf:l.length=16
  ·rw[if_pos hf] at hX;have hN16:N=16:=by omega
   subst hX;subst hN16;go_enter func195,ntmps195;go_wp2_with (go_at_call 225;refine(HG.o _).mono ?_;rintro e w1 ⟨rfl,ho⟩;obtain⟨q1,q2,q3⟩:=HXB.o _ ho;obtain⟨A,c,k1,k2,k3,k4,_⟩:=HOP.o _ ho;have HS:=h_ (HBX.o _ ho).right);go_quiet (fail);go_wp2;go_ret;exact⟨rfl,HS.o.drewN _⟩
  ·rw[if_neg hf] at hX;have hN16:N<16:=by omega
   have e9:((N:Int)==16)=false:=by rw[beq_eq_false_iff_ne];omega
   obtain⟨i0,hi0,hz⟩:=Option.map_eq_some_iff.1 Fu;simp only[Prod.mk.injEq] at hz;obtain⟨hz0,hz1,hz2⟩:=hz;have HI:=h_ hi0;have HZ0:=h_ hz0;have HZ1:=h_ hz1;have HZ2:=h_ hz2;have HON:Hid (∀u∈[Value.int .i64 s,.int .u64 v],u.oneCell'=true):=h_ (by intro u hu;simp at hu;rcases hu with rfl|rfl<;>rfl)
   have HRD:Hid (∀(w1:World),Reads (w1.alloc (.cells #[s,υ v] 148)) (w1.heap.size+1) 2 (some ⟨w1.heap.size,0,none⟩) 1 [.int .i64 s,.int .u64 v]):=h_ (fun w1=>by
    have h9:=Reads.of_blk (size:=2) (n:=1) (Blk.new w1 148 #[s,υ v]) rfl;rw[World.size_alloc] at h9;exact h9)
   have HFI:Hid (∀w2 A' c',Sat ω w2 (row 148 2 (.slice A' (N+1) c') (N+1) (vS l++[.int .i64 s,.int .u64 v])*(bk b 234 #[ι 16,.slice A' (N+1) c']*(bk w.heap.size 148 #[s,υ v]*F)))→Sat ω w2 (rdH b (l++[(s,v)])*F)):=h_ (fun w2 A' c' h2=>by
    refine Js (A:=A') (c:=c') ?_;rw[List.length_append,List.length_singleton,hN,Dy];have h3:Sat ω w2 (bk w.heap.size 148 #[s,υ v]*(bk b 234 #[ι 16,.slice A' (N+1) c']*(row 148 2 (.slice A' (N+1) c') (N+1) (vS l++[.int .i64 s,.int .u64 v])*F))):=h2.perm (by ac_rfl)
    exact h3.right)
   subst hX;go_enter func195,ntmps195;go_wp2_with (go_at_call 225;refine(HG.o _).mono ?_;rintro e w1 ⟨rfl,ho⟩;obtain⟨q1,q2,q3⟩:=HXB.o _ ho;obtain⟨A,c,k1,k2,k3,k4,k5⟩:=HOP.o _ ho;have HS:=h_ k5);go_quiet (fail);go_wp2;have l91:b<w1.heap.size+1:=by omega
   have l93:∀q o,((w1.drewN q).alloc o).cell? (κ b 1)=some (.slice A N c):=fun q o=>(((HS.o.drewN q).junk o).right.blk.cell 1)
   have l92:w.heap.size<w1.heap.size+1:=by omega
   refine wp_region_any (by kernel_rfl) ?_
   try (change wpAny _ _ _ _ _ _ _ (World.drew _))
   refine tF 0 ?_ rfl ?_ (tF 1 ?_ rfl ?_ (tF 2 ?_ rfl ?_ (tF 3 ?_ rfl ?_ ?_)));all_goals (try (
    intro w;go_simp<;>(try with_reducible rfl)))
   refine rF [4,5] ?_;refine AllReady.cons rfl (fun K hK=>?_) ?_
   ·go_simp;refine hK _ _ ?_;refine oF 5 rfl fun K hK=>?_
    go_simp;refine hK _ _ ?_;refine oF 6 rfl fun K hK=>?_
    go_simp;refine hK _ _ ?_;refine oF 7 rfl fun K hK=>?_
    refine BI 145 148 2 16 underlying145 HI.o HZ0.o HZ1.o HZ2.o ((HS.o.drewN _).junk _) (HRD.o _) HON.o ?_;intro A' c' w2 hs;have kb:=hs.right.blk;have qf:=kb.frozen;have ql:=kb.lt;have q1:=kb.cell 1;have HY:=h_ (hs.swap.put 1 (.slice A' (N+1) c') (cs':=#[ι 16,.slice A' (N+1) c']) rfl).swap;refine hK _ _ ?_;refine tF 8 ?_ rfl ?_ (tF 9 ?_ rfl ?_ ?_);all_goals (try (
     intro w;go_simp<;>(try with_reducible rfl)))
    refine oF 10 rfl fun K hK=>?_
    go_simp;refine hK _ _ ?_;refine dF ?_;go_wp2;go_ret;exact⟨rfl,HFI.o _ _ _ HY.o⟩
   refine nF rfl fun K hK=>?_
   ·go_simp;refine hK _ _ ?_;refine rF [4,6] ?_;refine AllReady.cons rfl (fun K hK=>?_) ?_
    ·go_simp;refine hK _ _ ?_;refine oF 6 rfl fun K hK=>?_
     go_simp;refine hK _ _ ?_;refine oF 7 rfl fun K hK=>?_
     refine BI 145 148 2 16 underlying145 HI.o HZ0.o HZ1.o HZ2.o ((HS.o.drewN _).junk _) (HRD.o _) HON.o ?_;intro A' c' w2 hs;have kb:=hs.right.blk;have qf:=kb.frozen;have ql:=kb.lt;have q1:=kb.cell 1;have HY:=h_ (hs.swap.put 1 (.slice A' (N+1) c') (cs':=#[ι 16,.slice A' (N+1) c']) rfl).swap;refine hK _ _ ?_;refine tF 8 ?_ rfl ?_ (tF 9 ?_ rfl ?_ ?_);all_goals (try (
      intro w;go_simp<;>(try with_reducible rfl)))
     refine oF 10 rfl fun K hK=>?_
     go_simp;refine hK _ _ ?_;refine dF ?_;go_wp2;go_ret;exact⟨rfl,HFI.o _ _ _ HY.o⟩
    refine nF rfl fun K hK=>?_
    ·go_simp;refine hK _ _ ?_;refine oF 4 rfl fun K hK=>?_
     go_simp;refine hK _ _ ?_;refine oF 7 rfl fun K hK=>?_
     refine BI 145 148 2 16 underlying145 HI.o HZ0.o HZ1.o HZ2.o ((HS.o.drewN _).junk _) (HRD.o _) HON.o ?_;intro A' c' w2 hs;have kb:=hs.right.blk;have qf:=kb.frozen;have ql:=kb.lt;have q1:=kb.cell 1;have HY:=h_ (hs.swap.put 1 (.slice A' (N+1) c') (cs':=#[ι 16,.slice A' (N+1) c']) rfl).swap;refine hK _ _ ?_;refine tF 8 ?_ rfl ?_ (tF 9 ?_ rfl ?_ ?_);all_goals (try (
      intro w;go_simp<;>(try with_reducible rfl)))
     refine oF 10 rfl fun K hK=>?_
     go_simp;refine hK _ _ ?_;refine dF ?_;go_wp2;go_ret;exact⟨rfl,HFI.o _ _ _ HY.o⟩
theorem Ij:(prog.info? 20).map (fun i=>(i.zero,i.size,i.bytes))=some (some (.nilIface),1,16):=by kernel_rfl
theorem JF (ω w:World)(F:HP)(A:Option Addr)(n c:Nat)(xs:List Value)(h:Sat ω w (row 20 1 (.slice A n c) n xs*F))(hn:n≤1000000)(h1:∀u∈xs,u.oneCell'=true):
  Calls prog 201 #[.slice A n c] w (RetR ω (row 20 1 (.slice A n c) n xs*F) 20 1 n xs):=by
 have H:=h_ h;have H1:=h_ h1;obtain⟨i0,hi,hz⟩:=Option.map_eq_some_iff.1 Ij;simp only[Prod.mk.injEq] at hz;obtain⟨hz0,hz1,hz2⟩:=hz;have HI:=h_ hi;have HZ0:=h_ hz0;have HZ1:=h_ hz1;have HZ2:=h_ hz2;rcases h.cases with⟨h2,h3,h4,h5⟩|⟨g,cap,cur,h2,h3,h4,h5,h6,h7,h8⟩
 ·injection h2 with h2a h2b h2c
  subst h2a h2c;subst h3 h4;have HX:=h_ (H.o.nil 20 1);have qT:∀(w:World) (a:Option Addr) (n c n' c':Nat),(binOp .eql 260 (.slice a n c) (.slice none n' c')).run prog w=.ok (.bool a.isNone) w:=fun w a n c n' c'=>Lib.run_eql_slice_nil w _ _ a n c n' c' underlying260
  go_enter func201,ntmps201;go_wp2;go_ret;exact⟨none,0,rfl,HX.o⟩
 ·injection h2 with h2a h2b h2c
  subst h2a;clear hi hz0 hz1 hz2 h1 h3 h4 h5 h6 h7 h8 h2b h2c;have HRD:Hid (Reads w w.heap.size 1 (some ⟨g,0,none⟩) n xs):=h_ h.reads;have HB:Hid (Sat ω (w.alloc (.cells #[] 20)) (row 20 1 (.slice w.heap.size 0 0) 0 []*(row 20 1 (.slice (some ⟨g,0,none⟩) n c) n xs*F))):=h_ (by
   have h9:=(h.new #[] 20).rowOf (n:=0) (size:=1) rfl (Nat.zero_le _);exact h9)
  have qT:∀(w:World) (a:Option Addr) (n c n' c':Nat),(binOp .eql 260 (.slice a n c) (.slice none n' c')).run prog w=.ok (.bool a.isNone) w:=fun w a n c n' c'=>Lib.run_eql_slice_nil w _ _ a n c n' c' underlying260
  go_enter func201,ntmps201;go_wp2_with (at_builtin;refine AB rfl _ _ 260 rfl 20 i0 _ 1 16 underlying260 HI.o HZ0.o HZ1.o HZ2.o rfl (by decide) _ _ _ rfl HB.o _ _ _ _ _ rfl (HRD.o.alloc (Nat.le_refl _) _) H1.o (by unfold maxLen;omega) (by omega) ?_;intro A' c' w' hs;simp only[Nat.zero_add,List.nil_append] at hs ⊢;have HS:=h_ hs)
  go_ret;exact⟨_,_,rfl,HS.o⟩
section
variable (ω w : World) (F : HP)
def itV:Itm→Value
 | .num n=>.iface 22 (.int .u64 n)
 | .truth b=>.iface 4 (.bool b)
 | .nothing=>.iface 407 (.agg #[])
theorem SM (x:Itm):(itV x).oneCell'=true:=by cases x<;>rfl
def slH (g:Nat)(l:List Itm):HP:=ex fun A=>ex fun c=>bk g 262 #[.slice A l.length c]*row 20 1 (.slice A l.length c) l.length (l.map itV)
theorem ET {ω w:World}{F:HP}{b:Nat}{l:List Itm}(h:Sat ω w (slH b l*F)):∃A c,Sat ω w (bk b 262 #[.slice A l.length c]*(row 20 1 (.slice A l.length c) l.length (l.map itV)*F)):=by
 obtain⟨A,h⟩:=h.of_ex;obtain⟨c,h⟩:=h.of_ex;exact⟨A,c,h.assoc⟩
theorem ES {ω w:World}{F:HP}{b:Nat}{l:List Itm}{A:Option Addr}{c:Nat}(h:Sat ω w (bk b 262 #[.slice A l.length c]*(row 20 1 (.slice A l.length c) l.length (l.map itV)*F))):Sat ω w (slH b l*F) :=
 Sat.to_ex A (h.assoc'.impL fun y hy=>⟨c,hy⟩)
theorem TW (h:Sat ω w F):
  Calls prog 154 #[] w (RetP ω F fun b=>slH b []):=by
 have H:=h_ h;go_enter func154,ntmps154;go_wp2;go_ret;exact⟨_,rfl,ES (A:=none) (c:=0) ((H.o.nil 20 1).bkNew rfl)⟩
theorem TX (b:Nat)(l:List Itm)(h:Sat ω w (slH b l*F))(hl:l.length≤1000):
  Calls prog 320 #[.pointer b] w fun e w'=>e=.returned l.length∧w'=w:=by
 obtain⟨A,c,h⟩:=ET h;have c1:=h.blk.c 0;have lt:=h.blk.lt;generalize l.length=N at *
 go_enter func320,ntmps320;go_wp2;go_ret;exact⟨rfl,rfl⟩
theorem TZ (b:Nat)(l:List Itm)(h:Sat ω w (slH b l*F))(hl:l.length≤1000)(x:Itm):
  Calls prog 232 #[.pointer b,itV x] w (Rets ω F (.bool (decide (l.length<16))) (slH b (if l.length<16 then l++[x] else l))):=by
 have H:=h_ h;obtain⟨A,c,h⟩:=ET h;have c1:=h.blk.c 0;have lt:=h.blk.lt;have fz:=h.blk.frozen;obtain⟨N,hN⟩:∃N,l.length=N:=⟨_,rfl⟩;by_cases hf:l.length<16
 ·rw[if_pos hf,show decide (l.length<16)=true by simp[hf]]
  have d:¬(16:Int)≤(N:Int):=by omega
  obtain⟨i0,hi0,hz⟩:=Option.map_eq_some_iff.1 Ij;simp only[Prod.mk.injEq] at hz;obtain⟨hz0,hz1,hz2⟩:=hz;have HI:=h_ hi0;have HZ0:=h_ hz0;have HZ1:=h_ hz1;have HZ2:=h_ hz2;obtain⟨ty,dd,hu⟩:∃ty dd,itV x=.iface ty dd:=by cases x<;>exact⟨_,_,rfl⟩
  rw[hu];have HON:Hid (∀y∈[Value.iface ty dd],y.oneCell'=true):=h_ (by intro y hy;simp at hy;subst hy;rfl)
  have HRD:Hid (∀(w1:World),Reads (w1.alloc (.cells #[.iface ty dd] 20)) (w1.heap.size+1) 1 (some ⟨w1.heap.size,0,none⟩) 1 [.iface ty dd]):=h_ (fun w1=>by
   have h9:=Reads.of_blk (size:=1) (n:=1) (Blk.new w1 20 #[.iface ty dd]) rfl;rw[World.size_alloc] at h9;exact h9)
  have HS:Hid (Sat ω w (row 20 1 (.slice A N c) N (l.map itV)*(bk b 262 #[.slice A N c]*F))):=h_ (hN▸h.swap);have HFI:Hid (∀w2 A' c',Sat ω w2 (row 20 1 (.slice A' (N+1) c') (N+1) (l.map itV++[.iface ty dd])*(bk b 262 #[.slice A' (N+1) c']*F))→Sat ω w2 (slH b (l++[x])*F)):=h_ (fun w2 A' c' h2=>by
   refine ES (A:=A') (c:=c') ?_;rw[List.length_append,List.length_singleton,hN,List.map_append,List.map_singleton,hu];exact h2.swap)
  rw[hN] at c1 hf;have l91:b<w.heap.size+1:=by omega
  go_enter func232,ntmps232;go_wp2_with (at_builtin;refine AB rfl _ _ 260 rfl 20 i0 _ 1 16 underlying260 HI.o HZ0.o HZ1.o HZ2.o rfl (by decide) _ _ _ rfl (HS.o.junk _) _ _ _ _ _ rfl (HRD.o _) HON.o (by unfold maxLen;omega) (by omega) ?_;intro A' c' w2 hs;have kb:=hs.right.blk;have qf:=kb.frozen;have ql:=kb.lt;have q1:=kb.cell 0;have HY:=h_ (hs.swap.put 0 (.slice A' (N+1) c') (cs':=#[.slice A' (N+1) c']) rfl).swap)
  go_ret;exact⟨rfl,HFI.o _ _ _ HY.o⟩
 ·rw[if_neg hf,show decide (l.length<16)=false by simp[hf]]
  have d:(16:Int)≤(N:Int):=by omega
  rw[hN] at c1 hl;go_enter func232,ntmps232;go_wp2;go_ret;exact⟨rfl,H.o⟩
end
end Go.Proofs.YtfodmgaliclhfaaGreatDoor
