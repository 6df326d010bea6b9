/- Lemmas. -/
import Derived.Test.YtfodmgaliclhfaaGreatDoorGOkPast
import Derived.Test.YtfodmgaliclhfaaGreatDoorGOkMc
namespace Go.Proofs.YtfodmgaliclhfaaGreatDoor
set_option linter.unusedVariables false
set_option linter.unusedSimpArgs false
set_option maxRecDepth 100000
set_option maxHeartbeats 16000000
open Go.RowKit Go.Proofs.Tryz Iq Jq
theorem KI (ω w:World)(F:HP)(b:Nat)(M:PMc)(h:Sat ω w (mcH b M*F)):
  Calls prog 31 #[.pointer b] w fun e w'=>e=.returned M.thr.length∧w'=w:=by
 obtain⟨D,h⟩:=DS h;obtain⟨hl,h1⟩:=Ad h;have hk:=h1.blk;have kl:=hk.lt;have k9:=hk.c 9;generalize M.thr.length=n at *
 go_enter func31,ntmps31;go_wp2;go_ret;exact⟨rfl,rfl⟩
theorem Dc (ps2:List (Value×Value))(ts2:List PTo):∀(ps:List (Value×Value)) (ts:List PTo),ps.length=ts.length→toVs (ps++ps2) (ts++ts2)=toVs ps ts++toVs ps2 ts2∧toAll (ps++ps2) (ts++ts2)=toAll ps ts*toAll ps2 ts2
 | [],[],_=>by
  refine⟨rfl,?_⟩;show toAll ps2 ts2=emp*toAll ps2 ts2
  rw[AD]
 |p::ps,t::ts,h=>by
  obtain⟨h1,h2⟩:=Dc ps2 ts2 ps ts (by simpa using h)
  refine⟨?_,?_⟩
  ·show toV p t++toVs (ps++ps2) (ts++ts2)=toV p t++toVs ps ts++toVs ps2 ts2
   rw[h1,List.append_assoc]
  ·show toH p t*toAll (ps++ps2) (ts++ts2)=(toH p t*toAll ps ts)*toAll ps2 ts2
   rw[h2];ac_rfl
theorem Hp {ω w:World}:∀(ps:List (Value×Value)) (ts:List PTo) (F:HP),Sat ω w (toAll ps ts*F)→∀u∈toVs ps ts,u.oneCell'=true
 | [],_,F,h=>by intro u hu;cases hu
 |_::_,[],F,h=>by intro u hu;cases hu
 |p::ps,t::ts,F,h=>by
  intro u hu;obtain⟨q1,q2⟩:=p;have h1:Sat ω w (row 54 2 q1 t.reads.length (vS t.reads)*(row 54 2 q2 t.cells.length (vS t.cells)*(toAll ps ts*F))):=h.perm (by show(row 54 2 q1 t.reads.length (vS t.reads)*row 54 2 q2 t.cells.length (vS t.cells)*toAll ps ts)*F=_;ac_rfl)
  obtain⟨A1,c1,rfl⟩:=h1.rowForm;obtain⟨A2,c2,rfl⟩:=h1.right.rowForm;have h2:u∈toV (.slice A1 t.reads.length c1,.slice A2 t.cells.length c2) t∨u∈toVs ps ts:=by
   have e:toVs ((.slice A1 t.reads.length c1,.slice A2 t.cells.length c2)::ps) (t::ts)=toV (.slice A1 t.reads.length c1,.slice A2 t.cells.length c2) t++toVs ps ts:=rfl;rw[e] at hu;exact List.mem_append.1 hu
  rcases h2 with h2|h2
  ·simp only[toV,List.mem_cons,List.not_mem_nil,or_false] at h2;rcases h2 with rfl|rfl|rfl|rfl|rfl|rfl|rfl|rfl|rfl|rfl|rfl|rfl|rfl|rfl<;>rfl
  ·exact Hp ps ts F h1.right.right u h2
def attTo (thr:List PTh)(k:Nat):List PTo:=(thr.take k).flatMap PTh.attempts
theorem Bi (thr:List PTh){k:Nat}{t:PTh}(ht:thr[k]?=some t):attTo thr (k+1)=attTo thr k++t.attempts:=by
 unfold attTo;rw[List.take_add_one,ht];simp
theorem DX (M:PMc):attTo M.thr M.thr.length=M.attempts:=by
 unfold attTo PMc.attempts;rw[List.take_length]
theorem Lz {K:Nat}{t:PTh}(h:ThFine K t):t.attempts.length≤K+1:=by
 have h1:=h.past;unfold PTh.attempts;rw[List.length_append];split
 ·split
  ·split<;>simp<;>omega
  ·simp;omega
 ·simp;omega
theorem DW {K:Nat}(thr:List PTh)(h:∀(i:Nat) (t:PTh),thr[i]?=some t→ThFine K t):∀k,k≤thr.length→(attTo thr k).length≤k*(K+1)
 |0,_=>by simp[attTo]
 |k+1,hk=>by
  have hlt:k<thr.length:=by omega
  have h1:=DW thr h k (by omega)
  rw[Bi thr (List.getElem?_eq_getElem hlt),List.length_append];have h2:=Lz (h k _ (List.getElem?_eq_getElem hlt));rw[Nat.succ_mul];omega
def AttP (ω:World)(X:HP)(ts:List PTo)(A:Option Addr)(c:Nat)(w:World):Prop:=∃qs:List (Value×Value),qs.length=ts.length∧Sat ω w (row 52 14 (.slice A ts.length c) ts.length (toVs qs ts)*(toAll qs ts*X))
theorem AtsP.all {ω w:World}{X:HP}{ts:List PTo}{A:Option Addr}{c:Nat}(h:AtsP ω X ts ts.length A c w):AttP ω X ts A c w:=by
 obtain⟨qs,h1,h2⟩:=h;rw[List.take_length] at h2;exact⟨qs,h1,h2⟩
theorem Dg [Inhabited PowO](ω w:World)(F:HP)(b:Nat)(M:PMc)(hM:McFine M)(hP:PastOk M)(hK:M.picks≤10000)(h:Sat ω w (mcH b M*(powH*F))):
  Calls prog 15 #[.pointer b] w fun e w'=>∃A c,e=.returned (.slice A M.attempts.length c)∧AttP ω (mcH b M*(powH*F)) M.attempts A c w':=by
 obtain⟨D,h⟩:=DS h;obtain⟨hl,h1⟩:=Ad h;obtain⟨n,hn⟩:∃n,M.thr.length=n:=⟨_,rfl⟩;have hn4:n≤4:=by
  obtain⟨s0,e⟩:=hM.set;have h9:=(BW s0).2;have h8:=hM.len;rw[e] at h8;omega
 have hk:=h1.blk;have kl:=hk.lt;have k9:w.cell? (κ b 9)=some (.slice D.tA n D.tc):=by rw[←hn];exact hk.cell 9
 obtain⟨X,hX⟩:∃X:HP,X=mcX b M D*(powH*F):=⟨_,rfl⟩;have HAL:Hid (∀k,k≤n→(attTo M.thr k).length≤40004):=h_ (fun k hk=>by
  have h9:=DW (K:=M.picks) M.thr (fun i t ht=>(hM.thr i t ht).1) k (by omega)
  have h8:k*(M.picks+1)≤4*10001:=Nat.mul_le_mul (by omega) (by omega)
  omega)
 have HRO:Hid (∀k,k<n→∃t:PTh,M.thr[k]?=some t∧∀(w1:World) A c,AttP ω X (attTo M.thr k) A c w1→∃g tb,D.tA=some ⟨g,0,none⟩∧g<w1.heap.size∧w1.cell? (κ g k)=some (.pointer (some ⟨tb,0,none⟩))∧∃xs,(∃Z,Sat ω w1 (row 52 14 (.slice A (attTo M.thr k).length c) (attTo M.thr k).length xs*Z)) ∧
   Calls prog 41 #[.pointer tb] w1 fun e w'=>∃B d ys,e=.returned (.slice B t.attempts.length d)∧(∀u∈ys,u.oneCell'=true)∧Reads w' w'.heap.size 14 B t.attempts.length ys∧∃Z,Sat ω w' (row 52 14 (.slice A (attTo M.thr k).length c) (attTo M.thr k).length xs*Z) ∧
    ∀w'' A' c',Sat ω w'' (row 52 14 (.slice A' ((attTo M.thr k).length+t.attempts.length) c') ((attTo M.thr k).length+t.attempts.length) (xs++ys)*Z)→AttP ω X (attTo M.thr (k+1)) A' c' w''):=h_ (fun k hk=>by
  obtain⟨t,ht⟩:∃t,M.thr[k]?=some t:=⟨_,List.getElem?_eq_getElem (by omega)⟩
  refine⟨t,ht,fun w1 A c h2=>?_⟩
  obtain⟨hth,_⟩:=hM.thr k t ht;obtain⟨qs,hq,h3⟩:=h2;obtain⟨tb,R,hb,hR,_⟩:=BQ M.s D.bs M.thr hl k t ht;have h4:Sat ω w1 (mcX b M D*(powH*F*(row 52 14 (.slice A (attTo M.thr k).length c) (attTo M.thr k).length (toVs qs (attTo M.thr k))*toAll qs (attTo M.thr k)))):=h3.perm (by rw[hX];ac_rfl)
  have h5:=(Ad h4).2;obtain⟨g,hA,hg,hc⟩:=BR (h5.perm (by ac_rfl:_=(bk b 97 (mcC M D)*memH (shOf M.s) D.mb M.mem)*(mcRow M D*(thAll M.s D.bs M.thr*(powH*F*(row 52 14 (.slice A (attTo M.thr k).length c) (attTo M.thr k).length (toVs qs (attTo M.thr k))*toAll qs (attTo M.thr k))))))) hb
  refine⟨g,tb,hA,hg,hc,_,⟨_,h3⟩,?_⟩;have eX:X=thH tb M.s t*(powH*(R*(bk b 97 (mcC M D)*(memH (shOf M.s) D.mb M.mem*(fact (D.bs.length=M.thr.length)*(mcRow M D*F)))))):=by
   rw[hX];unfold mcX mcRow;rw[hR];ac_rfl
  have h6:Sat ω w1 (thH tb M.s t*(powH*((R*(bk b 97 (mcC M D)*(memH (shOf M.s) D.mb M.mem*(fact (D.bs.length=M.thr.length)*(mcRow M D*F)))))*(row 52 14 (.slice A (attTo M.thr k).length c) (attTo M.thr k).length (toVs qs (attTo M.thr k))*toAll qs (attTo M.thr k))))):=h3.perm (by rw[eX];ac_rfl)
  refine(Ht ω w1 _ tb M.s t h6 hth.st (fun e=>by obtain⟨x,hx⟩:=hth.some_ e;obtain⟨r1,r2,r3,r4⟩:=(hth.now x hx).run;exact⟨x,hx,⟨r1,r2,r3,r4⟩⟩) (by have:=hth.past;omega) (hP.all k t ht)).mono ?_
  rintro e w2 ⟨B,d,rfl,h7⟩;obtain⟨q2,hq2,h8⟩:=h7.all;have h9:Sat ω w2 (toAll q2 t.attempts*(row 52 14 (.slice B t.attempts.length d) t.attempts.length (toVs q2 t.attempts)*(thH tb M.s t*(powH*((R*(bk b 97 (mcC M D)*(memH (shOf M.s) D.mb M.mem*(fact (D.bs.length=M.thr.length)*(mcRow M D*F)))))*(row 52 14 (.slice A (attTo M.thr k).length c) (attTo M.thr k).length (toVs qs (attTo M.thr k))*toAll qs (attTo M.thr k))))))):=h8.swap;refine⟨B,d,toVs q2 t.attempts,rfl,Hp _ _ _ h9,h8.reads,toAll qs (attTo M.thr k)*(toAll q2 t.attempts*(row 52 14 (.slice B t.attempts.length d) t.attempts.length (toVs q2 t.attempts)*X)),h8.perm (by rw[eX];ac_rfl),fun w'' A' c' h10=>⟨qs++q2,by rw[Bi M.thr ht,List.length_append,List.length_append,hq,hq2],?_⟩⟩
  obtain⟨e1,e2⟩:=Dc q2 t.attempts qs (attTo M.thr k) hq;rw[Bi M.thr ht,e1,e2,List.length_append];have h11:Sat ω w'' (row 52 14 (.slice B t.attempts.length d) t.attempts.length (toVs q2 t.attempts)*(row 52 14 (.slice A' ((attTo M.thr k).length+t.attempts.length) c') ((attTo M.thr k).length+t.attempts.length) (toVs qs (attTo M.thr k)++toVs q2 t.attempts)*(toAll qs (attTo M.thr k)*(toAll q2 t.attempts*X)))):=h10.perm (by ac_rfl)
  exact h11.right.perm (by ac_rfl))
 have HST:Hid (AttP ω X (attTo M.thr 0) none 0 w):=h_ ⟨[],rfl,by
  have h2:=h.nil 52 14;rw[hX];exact h2.perm (by show _=_*(emp*_);rw[AD];rfl)⟩
 have HFI:Hid (∀w1 A c,AttP ω X (attTo M.thr n) A c w1→AttP ω (mcH b M*(powH*F)) M.attempts A c w1):=h_ (fun w1 A c h2=>by
  rw[←hn,DX] at h2;obtain⟨qs,h3,h4⟩:=h2;refine⟨qs,h3,?_⟩;rw[hX] at h4;have h5:Sat ω w1 (mcX b M D*(powH*F*(row 52 14 (.slice A M.attempts.length c) M.attempts.length (toVs qs M.attempts)*toAll qs M.attempts))):=h4.perm (by ac_rfl)
  exact(KN h5).perm (by ac_rfl))
 have HNL:Hid ((attTo M.thr n).length=M.attempts.length):=h_ (by rw[←hn,DX])
 obtain⟨i0,hi0,hz⟩:=Option.map_eq_some_iff.1 Eu;simp only[Prod.mk.injEq] at hz;obtain⟨hz0,hz1,hz2⟩:=hz;have HI:=h_ hi0;have HZ0:=h_ hz0;have HZ1:=h_ hz1;have HZ2:=h_ hz2;have HTL:Hid (∀k t,k<n→M.thr[k]?=some t→t.attempts.length≤10001):=h_ (fun k t _ ht=>by have:=Lz (hM.thr k t ht).1;omega)
 have HSU:Hid (∀k t,M.thr[k]?=some t→(attTo M.thr (k+1)).length=(attTo M.thr k).length+t.attempts.length):=h_ (fun k t ht=>by rw[Bi M.thr ht,List.length_append])
 obtain⟨Q,hQ⟩:∃Q:Nat→Nat,Q=fun k=>(attTo M.thr k).length:=⟨_,rfl⟩
 have hQ0:Q 0=0:=by rw[hQ];rfl
 have HQ:=h_ hQ;have HQL:Hid (∀k,k≤n→Q k≤40004):=h_ (by rw[hQ];exact HAL.o)
 go_enter func15,ntmps15;go_wp2;go_loopw [3,5,11] (fun v3 _ i wr=>∃(k:Nat) (A:Option Addr) (c:Nat),k≤n∧i=.int .i64 k∧v3=.slice A (Q k) c∧Hid (AttP ω X (attTo M.thr k) A c wr)) (fun _ _ i _=>n-(intOf i).toNat)
 case atStart=>exact⟨0,none,0,by omega,rfl,by rw[hQ0],HST.o⟩
 case round =>
  obtain⟨k,A,c,hk,rfl,rfl,HA⟩:=hrel;by_cases hlt:k<n
  ·obtain⟨t,ht,hro⟩:=HRO.o k hlt;obtain⟨g,tb,hAg,hg,hc,xs,hz1,hco⟩:=hro wr A c HA.o;have k9g:w.cell? (κ b 9)=some (.slice (some ⟨g,0,none⟩) n D.tc):=by rw[←hAg];exact k9
   have hm:=HTL.o k t hlt ht;have hql:=HQL.o k (by omega)
   have hsu:Q (k+1)=Q k+t.attempts.length:=by rw[HQ.o];exact HSU.o k t ht
   have eqk:(attTo M.thr k).length=Q k:=by rw[HQ.o]
   rw[eqk] at hco;obtain⟨m,hmm⟩:∃m,t.attempts.length=m:=⟨_,rfl⟩;rw[hmm] at hco hm hsu;obtain⟨kq,hkq⟩:∃kq,Q k=kq:=⟨_,rfl⟩;rw[hkq] at hco hql hsu ⊢;have HCO:=h_ hco;have HSUU:=h_ hsu;rw[hAg];go_wp2_with (first
    |(go_at_call 41;refine(HCO.o).mono ?_;rintro e w1 ⟨B,d,ys,rfl,ho,hr,Z,hs,hf⟩;have HSa:=h_ hs;have HF:=h_ hf;have HRD:=h_ hr;have HON:=h_ ho)
    |(at_builtin;refine AB rfl _ _ 47 rfl 52 i0 _ 14 168 underlying47 HI.o HZ0.o HZ1.o HZ2.o rfl (by decide) _ _ _ rfl HSa.o _ _ _ _ _ rfl HRD.o HON.o (by unfold maxLen;first|done|omega) (by first|done|omega) ?_;intro A' c' w2 hs;have HY:=h_ (HF.o _ _ _ hs)))
   exact⟨⟨k+1,_,_,by omega,by go_num,by rw[HSUU.o],HY.o⟩,by simp[intOf];omega⟩
  ·obtain rfl:k=n:=by omega
   have hE:Q k=M.attempts.length:=by rw[HQ.o];exact HNL.o
   have HZ:=h_ (HFI.o wr A c HA.o);have HEE:=h_ hE;go_wp2;go_ret;exact⟨A,c,by rw[HEE.o];rfl,HZ.o⟩
section
variable (ω w : World) (F : HP)
theorem TS (l:List Nat):∀u∈vU l,u.oneCell'=true:=by
 intro u hu;obtain⟨n,_,rfl⟩:=List.mem_map.1 hu;rfl
theorem Ea {g:Nat}{e:TypeId}{xs:List Value}(h:xs.length≤maxLen):∀y,bk g e xs.toArray y→row e 1 (.slice (some ⟨g,0,none⟩) xs.length xs.length) xs.length xs y:=fun y hy =>
 Cc (Nat.le_refl _) h (by simp) (by simp) y hy
theorem Pp (b:Nat)(ws:List Nat)(h:Sat ω w (heapH b ws*F))(hn:ws.length≤1000):
  Calls prog 71 #[.pointer b] w (RetR ω (heapH b ws*F) 22 1 ws.length (vU ws)):=by
 obtain⟨g,h⟩:=h.of_ex;have h:=h.assoc;have c0:=h.blk.c 0;have kl:=h.blk.lt;have HC:Hid (Calls prog 111 #[.slice (some ⟨g,0,none⟩) ws.length ws.length] w (RetR ω (heapH b ws*F) 22 1 ws.length (vU ws))):=h_ (by
  have h2:Sat ω w (bk g 22 (vU ws).toArray*(bk b 168 #[.slice (some ⟨g,0,none⟩) ws.length ws.length]*F)):=h.swap;have h3:=h2.impL (Ea (by rw[Jf];unfold maxLen;omega))
  rw[Jf] at h3;refine(Nw ω w _ _ ws.length ws.length (vU ws) h3 (by omega) (TS _)).mono ?_
  rintro e w2 ⟨B,d,rfl,h4⟩;refine⟨B,d,rfl,?_⟩;have h5:=h4.swap.rowFull;have h6:Sat ω w2 ((bk b 168 #[.slice (some ⟨g,0,none⟩) ws.length ws.length]*bk g 22 (vU ws).toArray)*(row 22 1 (.slice B ws.length d) ws.length (vU ws)*F)):=h5.perm (by ac_rfl)
  have h7:Sat ω w2 (heapH b ws*(row 22 1 (.slice B ws.length d) ws.length (vU ws)*F)):=Sat.to_ex g h6;exact h7.swap)
 generalize heapH b ws=HPP at *
 generalize ws.length=n at *
 go_enter func71,ntmps71;go_wp2_with (go_at_call 111;refine(HC.o).mono ?_;rintro e w1 ⟨B,d,rfl,hs⟩;have HZ:=h_ hs);go_ret;exact⟨_,_,rfl,HZ.o⟩
theorem Mv (s:MSh)(b:Nat)(m:PMm)(h:Sat ω w (memH s b m*F))(hf:m.fits):
  Calls prog 42 #[.pointer b] w (RetR ω (memH s b m*F) 22 1 m.words.length (vU m.words)):=by
 obtain⟨A,h⟩:=h.of_ex;have hb:=(h.perm AI).blk;have kl:=hb.lt;have c5:w.cell? (κ b 5)=some (.pointer A.bh):=hb.cell 5;have h2:Sat ω w (heapH A.bh m.words*(bk b 130 (memCells s A m.count)*(tabH A.bt m.locks s.wide*(clkH A.bc m.clock*epH A.bs m.since))*F)):=h.perm As;have HC:Hid (Calls prog 71 #[.pointer A.bh] w (RetR ω (memH s b m*F) 22 1 m.words.length (vU m.words))):=h_ (by
  refine(Pp ω w _ A.bh m.words h2 hf.words).mono ?_;rintro e w2 ⟨B,d,rfl,h4⟩;have h5:Sat ω w2 (memHA s b m A*(row 22 1 (.slice B m.words.length d) m.words.length (vU m.words)*F)):=h4.perm (by rw[As];ac_rfl)
  have h6:Sat ω w2 (memH s b m*(row 22 1 (.slice B m.words.length d) m.words.length (vU m.words)*F)):=Sat.to_ex A h5;exact⟨B,d,rfl,h6.swap⟩)
 go_enter func42,ntmps42;go_wp2_with (go_at_call 71;refine(HC.o).mono ?_;rintro e w1 ⟨B,d,rfl,hs⟩;have HZ:=h_ hs);go_ret;exact⟨_,_,rfl,HZ.o⟩
theorem IR (b:Nat)(M:PMc)(h:Sat ω w (mcH b M*F))(hM:McFine M):
  Calls prog 18 #[.pointer b] w (RetR ω (mcH b M*F) 22 1 M.mem.words.length (vU M.mem.words)):=by
 obtain⟨D,h⟩:=DS h;obtain⟨hl,h1⟩:=Ad h;have hk:=h1.blk;have kl:=hk.lt;have k8:w.cell? (κ b 8)=some (.pointer D.mb):=hk.cell 8;have HC:Hid (Calls prog 42 #[.pointer D.mb] w (RetR ω (mcH b M*F) 22 1 M.mem.words.length (vU M.mem.words))):=h_ (by
  refine(Mv ω w _ (shOf M.s) D.mb M.mem h1.swap hM.mem.fits).mono ?_;rintro e w2 ⟨B,d,rfl,h2⟩;refine⟨B,d,rfl,?_⟩;have h3:Sat ω w2 (bk b 97 (mcC M D)*(memH (shOf M.s) D.mb M.mem*(mcRow M D*(thAll M.s D.bs M.thr*(row 22 1 (.slice B M.mem.words.length d) M.mem.words.length (vU M.mem.words)*F))))):=h2.perm (by ac_rfl)
  exact(CF hl h3).swap)
 generalize mcH b M=HPP at *
 generalize M.mem.words.length=n at *
 go_enter func18,ntmps18;go_wp2_with (go_at_call 42;refine(HC.o).mono ?_;rintro e w1 ⟨B,d,rfl,hs⟩;have HZ:=h_ hs);go_ret;exact⟨_,_,rfl,HZ.o⟩
theorem UY (b:Nat)(M:PMc)(D:McD)(h:Sat ω w (mcX b M D*F))(i tb:Nat)(hi:i<M.thr.length)(hb:D.bs[i]?=some tb):
  Calls prog 43 #[.pointer b,i] w fun e w'=>e=.returned (.pointer tb)∧w'=w:=by
 obtain⟨hl,h1⟩:=Ad h;obtain⟨g,hA,hg,hc⟩:=BR (h1.perm (by ac_rfl:_=(bk b 97 (mcC M D)*memH (shOf M.s) D.mb M.mem)*(mcRow M D*(thAll M.s D.bs M.thr*F)))) hb
 have hk:=h1.blk;have kl:=hk.lt;have k9:w.cell? (κ b 9)=some (.slice (some ⟨g,0,none⟩) M.thr.length D.tc):=by rw[←hA];exact hk.cell 9
 have hc2:w.cell? (κ g i)=some (.pointer tb):=hc;generalize M.thr.length=n at *
 have dge:¬(n:Int)≤(i:Int):=by omega
 have dlt:¬(i:Int)<0:=by omega
 have dil:(i:Int)<(n:Int):=by omega
 go_enter func43,ntmps43;go_wp2;go_ret;exact⟨rfl,rfl⟩
theorem KJ (b:Nat)(M:PMc)(h:Sat ω w (mcH b M*F))(i:Nat)(t:PTh)(ht:M.thr[i]?=some t)(hn:t.results.length≤1000000):
  Calls prog 19 #[.pointer b,i] w (RetR ω (mcH b M*F) 66 4 t.results.length (t.results.flatMap reV)):=by
 obtain⟨D,h⟩:=DS h;obtain⟨hl,h1⟩:=Ad h;have hi:i<M.thr.length:=(List.getElem?_eq_some_iff.1 ht).1;obtain⟨tb,R,hb,hR,hset⟩:=BQ M.s D.bs M.thr hl i t ht;have HOF:=h_ (UY ω w F b M D h i tb hi hb);have HRE:Hid (Calls prog 44 #[.pointer tb] w (RetR ω (mcH b M*F) 66 4 t.results.length (t.results.flatMap reV))):=h_ (by
  have h2:Sat ω w (thH tb M.s t*(R*(bk b 97 (mcC M D)*(memH (shOf M.s) D.mb M.mem*(mcRow M D*F))))):=h1.perm (by rw[hR];ac_rfl)
  refine(Jh ω w _ tb M.s t h2 hn).mono ?_;rintro e w2 ⟨B,d,rfl,h3⟩;refine⟨B,d,rfl,?_⟩;have h4:Sat ω w2 (bk b 97 (mcC M D)*(memH (shOf M.s) D.mb M.mem*(mcRow M D*(thAll M.s D.bs M.thr*(row 66 4 (.slice B t.results.length d) t.results.length (t.results.flatMap reV)*F))))):=h3.perm (by rw[hR];ac_rfl)
  exact(CF hl h4).swap)
 generalize mcH b M=HPP at *
 generalize t.results.length=n at *
 go_enter func19,ntmps19;go_wp2_with (first
  |(go_at_call 43;refine(HOF.o).mono ?_;rintro e w1 ⟨rfl,rfl⟩)
  |(go_at_call 44;refine(HRE.o).mono ?_;rintro e w1 ⟨B,d,rfl,hs⟩;have HZ:=h_ hs))
 go_ret;exact⟨_,_,rfl,HZ.o⟩
theorem Jn {thr:List PTh}{n:Nat}(hn:thr.length=n)(h:∀(j:Nat) (t:PTh),j<n→thr[j]?=some t→t.state=6∨t.state=4):thr.all (fun t=>t.state==6||t.state==4)=true:=by
 rw[List.all_eq_true];intro t ht;obtain⟨j,hj⟩:=List.getElem?_of_mem ht;have h1:j<thr.length:=(List.getElem?_eq_some_iff.1 hj).1;rcases h j t (by omega) hj with e|e<;>simp[e]
theorem Jo {thr:List PTh}{j:Nat}{t:PTh}(ht:thr[j]?=some t)(h6:t.state≠6)(h4:t.state≠4):thr.all (fun t=>t.state==6||t.state==4)=false:=by
 rw[List.all_eq_false];exact⟨t,List.mem_of_getElem? ht,by simp[h6,h4]⟩
theorem PO (b:Nat)(M:PMc)(h:Sat ω w (mcH b M*F))(hn4:M.thr.length≤4):
  Calls prog 30 #[.pointer b] w fun e w'=>e=.returned (.bool M.rests)∧w'=w:=by
 obtain⟨D,h⟩:=DS h;obtain⟨hl,h1⟩:=Ad h;obtain⟨n,hn⟩:∃n,M.thr.length=n:=⟨_,rfl⟩;have hk:=h1.blk;have kl:=hk.lt;have k9:w.cell? (κ b 9)=some (.slice D.tA n D.tc):=by rw[←hn];exact hk.cell 9
 have HRO:Hid (∀k,k<n→∃(g tb:Nat) (t:PTh),M.thr[k]?=some t∧D.tA=some ⟨g,0,none⟩∧g<w.heap.size∧w.cell? (κ g k)=some (.pointer tb)∧Calls prog 49 #[.pointer tb] w fun e w'=>e=.returned t.state∧w'=w):=h_ (fun k hk=>by
  obtain⟨t,ht⟩:∃t,M.thr[k]?=some t:=⟨_,List.getElem?_eq_getElem (by omega)⟩
  obtain⟨tb,R,hb,hR,_⟩:=BQ M.s D.bs M.thr hl k t ht;obtain⟨g,hA,hg,hc⟩:=BR (h1.perm (by ac_rfl:_=(bk b 97 (mcC M D)*memH (shOf M.s) D.mb M.mem)*(mcRow M D*(thAll M.s D.bs M.thr*F)))) hb
  have h2:Sat ω w (thH tb M.s t*(R*(bk b 97 (mcC M D)*(memH (shOf M.s) D.mb M.mem*(mcRow M D*F))))):=h1.perm (by rw[hR];ac_rfl)
  exact⟨g,tb,t,ht,hA,hg,hc,Oa ω w _ tb M.s t h2⟩)
 have HY:Hid ((∀(j:Nat) (t:PTh),j<n→M.thr[j]?=some t→t.state=6∨t.state=4)→M.rests=true):=h_ (fun h9=>Jn hn h9)
 have HN:Hid (∀(j:Nat) (t:PTh),M.thr[j]?=some t→t.state≠6→t.state≠4→M.rests=false):=h_ (fun j t ht h6 h4=>Jo ht h6 h4)
 obtain⟨rs,hrs⟩:∃rs,M.rests=rs:=⟨_,rfl⟩;rw[hrs] at HY HN ⊢;rw[hn] at hn4;go_enter func30,ntmps30;go_wp2;go_loopw [4,5,11] (fun _ _ i wr=>∃k:Nat,k≤n∧i=.int .i64 k∧wr=w∧Hid (∀(j:Nat) (t:PTh),j<k→M.thr[j]?=some t→t.state=6∨t.state=4)) (fun _ _ i _=>n-(intOf i).toNat)
 case atStart=>exact⟨0,by omega,rfl,rfl,fun j t hj=>absurd hj (by omega)⟩
 case round =>
  obtain⟨k,hk,rfl,rfl,HP⟩:=hrel;by_cases hlt:k<n
  ·obtain⟨g,tb,t,ht,hA,hg,hc,hst⟩:=HRO.o k hlt;rw[hA] at k9 ⊢;obtain⟨st,hs⟩:∃st,t.state=st:=⟨_,rfl⟩;rw[hs] at hst;have HST:=h_ hst;by_cases h64:st=6∨st=4
   ·have HP2:Hid (∀(j:Nat) (t:PTh),j<k+1→M.thr[j]?=some t→t.state=6∨t.state=4):=h_ (fun j t' hj ht'=>by
     rcases Nat.lt_or_ge j k with h9|h9
     ·exact HP.o j t' h9 ht'
     ·obtain rfl:j=k:=by omega
      rw[ht] at ht';obtain rfl:=Option.some.inj ht';rw[hs];exact h64)
    rcases h64 with h6|h4
    ·have d6:((st:Int) != 6)=false:=by rw[h6];rfl
     go_wp2_with (go_at_call 49;refine(HST.o).mono ?_;rintro e w1 ⟨rfl,rfl⟩);exact⟨⟨k+1,by omega,by go_num,by first|rfl|trivial,HP2.o⟩,by simp[intOf];omega⟩
    ·have d6:((st:Int) != 6)=true:=by rw[h4];rfl
     have d4:((st:Int) != 4)=false:=by rw[h4];rfl
     go_wp2_with (go_at_call 49;refine(HST.o).mono ?_;rintro e w1 ⟨rfl,rfl⟩);exact⟨⟨k+1,by omega,by go_num,by first|rfl|trivial,HP2.o⟩,by simp[intOf];omega⟩
   ·have hfalse:=HN.o k t ht (by omega) (by omega)
    have d6:((st:Int) != 6)=true:=by simp;omega
    have d4:((st:Int) != 4)=true:=by simp;omega
    have HFA:=h_ hfalse;go_wp2_with (go_at_call 49;refine(HST.o).mono ?_;rintro e w1 ⟨rfl,rfl⟩);first|(go_ret;exact⟨by rw[HFA.o];rfl,rfl⟩)|(go_ret;exact⟨by rw[HFA.o],rfl⟩)
  ·obtain rfl:k=n:=by omega
   have HTR:=h_ (HY.o HP.o);go_wp2;first|(go_ret;exact⟨by rw[HTR.o];rfl,rfl⟩)|(go_ret;exact⟨by rw[HTR.o],rfl⟩)
end
def addsP (p:Nat):List PIns:=[⟨8,0,7,(p:Int),0⟩,⟨1,1,0,0,1⟩,⟨3,0,0,1,0⟩,⟨9,7,0,(p:Int),0⟩,⟨21,0,0,0,0⟩]
def pickN:Nat→PMc→PMc
 |0,m=>m
 |n+1,m=>(pickN n m).pick 0 0
def awakeM:PMc:=PMc.new ⟨40,4,0,0,0,0,9,20⟩ [[addsP 6]]
def awakeB (m:PMc):Bool:=m.mem.words.length==40&&(m.mem.words.getD 6 0==1&&(match m.thr with
 | [t]=>t.state==6&&(t.attempts.length==1&&(match t.results with
  | [r]=>r.slate==[49]
  |_=>false))
 |_=>false))
theorem JJ:awakeB (pickN 40 awakeM)=true:=by decide +kernel
theorem Ep {dep:Nat→Nat}{code:List PIns}{k:Nat}(op a b c n:Int)(ha:0≤a∧a<8)(hb:0≤b∧b<8)(hc:0≤c∧c≤40)(hn:0≤n∧n<18446744073709551616)(ho:(op=1∨op=3∨op=8∨op=9∨op=21)∧dep (k+1)=dep k):InsFine dep code k ⟨op,a,b,c,n⟩:=⟨ha,hb,hc,hn,.on ho.1 ho.2⟩
theorem LD (p:Nat)(hp:p≤40):CodeFine (fun _=>0) (addsP p):=by
 refine⟨by simp[addsP],fun k hk=>?_,rfl⟩
 have h6:(addsP p).length=5:=rfl;rw[h6] at hk;have hpa:0≤((p:Nat):Int)∧((p:Nat):Int)≤40:=by omega
 rcases(by omega:k=0∨k=1∨k=2∨k=3∨k=4) with rfl|rfl|rfl|rfl|rfl
 ·exact Ep 8 0 7 _ 0 (by decide) (by decide) hpa (by decide) (by decide)
 ·exact Ep 1 1 0 0 1 (by decide) (by decide) (by decide) (by decide) (by decide)
 ·exact Ep 3 0 0 1 0 (by decide) (by decide) (by decide) (by decide) (by decide)
 ·exact Ep 9 7 0 _ 0 (by decide) (by decide) hpa (by decide) (by decide)
 ·exact Ep 21 0 0 0 0 (by decide) (by decide) (by decide) (by decide) (by decide)
theorem GE:okP (addsP 6)=true:=by decide +kernel
theorem OJ:JobFine (addsP 6):=⟨GE,_,LD 6 (by omega)⟩
def BkS (N:Nat)(CS:Array Value)(w:World):Prop:=Blk w N 43 CS
theorem Re (n:Int)(m:Nat)(hm:0<m) : -(m:Int)<n.tmod (m:Int)∧n.tmod (m:Int)<(m:Int):=by
 have h1:(n.tmod (m:Int)).natAbs=n.natAbs%(m:Int).natAbs:=Int.natAbs_tmod n m;have h2:=Nat.mod_lt n.natAbs (show 0<(m:Int).natAbs by omega)
 omega
theorem CV (w:World)(n:Int)(lo hi:Nat)(h1:lo≤hi)(h2:hi≤1000):
  Calls prog 28 #[n,lo,hi] w fun e w'=>∃r:Nat,lo≤r∧r≤hi∧e=.returned r∧w'=w:=by
 obtain⟨m,hm⟩:∃m:Nat,hi-lo+1=m:=⟨_,rfl⟩;have e1:(hi:Int)-(lo:Int)+1=(m:Int):=by omega
 have hne:((hi:Int)-(lo:Int)+1)≠0:=by omega
 have ht:=Re n m (by omega)
 rw[←e1] at ht;obtain⟨q,hq⟩:∃q,n.tmod ((hi:Int)-(lo:Int)+1)=q:=⟨_,rfl⟩;rw[hq] at ht;have b1:(lo:Int)≤(hi:Int):=by omega
 have b2:(hi:Int)≤1000:=by omega
 have b3:(0:Int)≤(lo:Int):=by omega
 have b4:(0:Int)≤(hi:Int):=by omega
 have b5:(lo:Int)≤1000:=by omega
 clear e1;by_cases h0:q<0
 ·have hR:∃r:Nat,lo≤r∧r≤hi∧((lo:Int)+(q+(hi:Int)-(lo:Int)+1))=(r:Int):=⟨((lo:Int)+(q+(hi:Int)-(lo:Int)+1)).toNat,by omega,by omega,by omega⟩
  obtain⟨r,r1,r2,r3⟩:=hR;have HR:=h_ r3;go_enter func28,ntmps28;go_wp2;go_ret;exact⟨r,r1,r2,by rw[←HR.o];first|rfl|simp,rfl⟩
 ·have hR:∃r:Nat,lo≤r∧r≤hi∧((lo:Int)+q)=(r:Int):=⟨((lo:Int)+q).toNat,by omega,by omega,by omega⟩
  obtain⟨r,r1,r2,r3⟩:=hR;have HR:=h_ r3;go_enter func28,ntmps28;go_wp2;go_ret;exact⟨r,r1,r2,by rw[←HR.o];first|rfl|simp,rfl⟩
theorem PG (ω w:World)(F:HP)(h:Sat ω w F)(m:Value)(x n:Int)(d:Nat)(k:Nat)(hk:k≤1000):
  Calls prog 12 #[m,.agg #[x,.int .u8 d,n],k] w fun e w'=>∃r:Nat,r≤k∧e=.returned r∧Sat ω w' F:=by
 have HW:=h_ (fun w1=>CV w1 n 0 k (Nat.zero_le _) hk)
 have H:=h_ h;go_enter func12,ntmps12;go_wp2_with (go_at_call 28;refine(HW.o _).mono ?_;rintro e w1 ⟨r,r1,r2,rfl,rfl⟩);go_ret;exact⟨r,r2,rfl,H.o.junk _⟩
theorem RU (ω w:World)(F:HP)(b:Nat)(M:PMc)(h:Sat ω w (mcH b M*F))(hn1:1≤M.thr.length)(hn4:M.thr.length≤4)(x n:Int)(d:Nat):
  Calls prog 14 #[.pointer b,.agg #[x,.int .u8 d,n]] w fun e w'=>∃r:Nat,r<M.thr.length∧e=.returned r∧Sat ω w' (mcH b M*F):=by
 obtain⟨N,hN⟩:∃N,w.heap.size=N:=⟨_,rfl⟩;have HX:Hid (Sat ω (w.alloc (.cells #[x,.int .u8 d,n] 43)) (bk N 43 #[x,.int .u8 d,n]*(mcH b M*F))):=h_ (by rw[←hN];exact h.new _ _)
 have HD:=h_ (HX.o.drewN 1);have HT:Hid (∀w1,Sat ω w1 (bk N 43 #[x,.int .u8 d,n]*(mcH b M*F))→Calls prog 31 #[.pointer b] w1 fun e w'=>e=.returned M.thr.length∧w1=w'):=h_ (fun w1 h1=>by
  refine(KI ω w1 _ b M h1.right).mono ?_;rintro e w2 ⟨rfl,rfl⟩;exact⟨rfl,rfl⟩)
 obtain⟨q,hq⟩:∃q,M.thr.length=q:=⟨_,rfl⟩;rw[hq] at HT hn1 hn4 ⊢;have hmx:max (q:Int) 1=(q:Int):=by omega
 have hmx2:max (1:Int) (q:Int)=(q:Int):=by omega
 have HW:Hid (∀w1,Calls prog 28 #[x,ι 0,ι (IntKind.i64.wrap ((q:Int)-1))] w1 fun e w'=>∃r:Nat,r<q∧e=.returned r∧w1=w'):=h_ (fun w1=>by
  have e:IntKind.i64.wrap ((q:Int)-1)=((q-1:Nat):Int):=by rcases(by omega:q=1∨q=2∨q=3∨q=4) with rfl|rfl|rfl|rfl<;>decide +kernel
  rw[e];refine(CV w1 x 0 (q-1) (Nat.zero_le _) (by omega)).mono ?_
  rintro e w2 ⟨r,r1,r2,rfl,rfl⟩;exact⟨r,by omega,rfl,rfl⟩)
 have HS0:BkS N #[x,.int .u8 d,n] (w.alloc (.cells #[x,.int .u8 d,n] 43)).drew:=HD.o.blk;go_enter func14,ntmps14;go_wp2;refine gN (BkS N #[x,.int .u8 d,n]) HS0 fun hh0=>?_
 refine tH 0 ?_ rfl ?_ (tH 1 ?_ rfl ?_ (tH 2 ?_ rfl ?_ ?_));all_goals (try (
  intro w hSw;have jl:=hSw.lt;have jf:=hSw.frozen;have j0:=hSw.c 0;try simp only[sP]
  go_simp<;>(try with_reducible rfl)))
 try simp only[sP]
 refine oH 3 rfl fun K hK=>?_
 go_simp;go_at_call 31;refine(HT.o _ HD.o).mono ?_;rintro e wA ⟨rfl,rfl⟩;(try go_wp2_with fail);refine hK.q ?_ fun hh1=>?_
 ·exact HS0
 try simp only[sP]
 refine tH 4 ?_ rfl ?_ (tH 5 ?_ rfl ?_ ?_);all_goals (try (
  intro w hSw;have jl:=hSw.lt;have jf:=hSw.frozen;have j0:=hSw.c 0;try simp only[sP]
  go_simp<;>(try with_reducible rfl)))
 try simp only[sP]
 refine oH 6 rfl fun K hK=>?_
 go_simp;go_at_call 28;refine(HW.o _).mono ?_;rintro e wB ⟨r,hr,rfl,rfl⟩;(try go_wp2_with fail);refine hK.q ?_ fun hh2=>?_
 ·exact HS0
 try simp only[sP]
 refine tH 7 ?_ rfl ?_ ?_;all_goals (try (
  intro w hSw;have jl:=hSw.lt;have jf:=hSw.frozen;have j0:=hSw.c 0;go_simp<;>(try with_reducible rfl)))
 try simp only[sP]
 refine dN ?_;go_wp2;go_ret;exact⟨r,hr,rfl,HD.o.right⟩
def ProgNew (ω:World)(F:HP)(p:List PIns)(e:Ending)(w':World):Prop:=∃g:Nat,e=.returned (.agg #[.slice (some ⟨g,0,none⟩) p.length p.length])∧Sat ω w' (prH (some ⟨g,0,none⟩) p.length p*F)
theorem Ed {ω w:World}{F:HP}(h:Sat ω w F)(p:List PIns)(hp:p.length≤40)(o:Obj)(cs:Array Value)(hc:cs.toList=p.flatMap insV):Sat ω ((w.alloc o).alloc (.cells cs 87)) (prH (some ⟨w.heap.size+1,0,none⟩) p.length p*F):=by
 have h1:=(h.junk o).new cs 87;rw[World.size_alloc] at h1;have hsz:cs.size=p.length*5:=by rw[←Array.length_toList,hc,NW]
 have h2:=h1.rowOf (n:=p.length) (size:=5) hsz (by unfold maxLen;omega)
 rw[hc] at h2;exact h2
theorem TD (ω w:World)(F:HP)(h:Sat ω w F)(a:Nat):Calls prog 16 #[a] w (ProgNew ω F (addsP a)):=by
 have HN:=h_ (fun(o:Obj)=>Ed h (addsP a) (by simp[addsP]) o #[ι 8,ι 0,ι 7,a,υ 0,ι 1,ι 1,ι 0,ι 0,υ 1,ι 3,ι 0,ι 0,ι 1,υ 0,ι 9,ι 7,ι 0,a,υ 0,ι 21,ι 0,ι 0,ι 0,υ 0] rfl)
 clear h;go_enter func16,ntmps16;go_wp2;refine bodyPost_ret (v:=.agg #[.slice (some ⟨w.heap.size+1,0,none⟩) 5 5]) (by simp[results,results16,go_sem]) rfl ⟨w.heap.size+1,rfl,HN.o _⟩
theorem RR (ω w:World)(F:HP)(h:Sat ω w F):Calls prog 16 #[ι 6] w (ProgNew ω F (addsP 6)):=TD ω w F h 6
end Go.Proofs.YtfodmgaliclhfaaGreatDoor
