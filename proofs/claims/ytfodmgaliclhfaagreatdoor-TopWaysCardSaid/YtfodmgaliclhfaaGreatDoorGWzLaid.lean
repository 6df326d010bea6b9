/- Lemmas. -/
import Derived.Test.YtfodmgaliclhfaaGreatDoorGWzHe
import Derived.Deep.CutBlock
import Derived.Deep.DeepCutAuto
import Derived.Test.YtfodmgaliclhfaaGreatDoorGPlain
import Derived.Test.YtfodmgaliclhfaaGreatDoorGAtLater
import Derived.Test.YtfodmgaliclhfaaGreatDoorRows
import Derived.Stop.LaidErr
import Derived.Stop.Joined
import Derived.Lib.LaidTab
import Derived.MakeChecks
namespace Go.Proofs.YtfodmgaliclhfaaGreatDoor
set_option linter.unusedVariables false
set_option linter.unusedSimpArgs false
set_option maxRecDepth 100000
set_option maxHeartbeats 16000000
open Go.RowKit Go.Proofs.Tryz Iq Jq
theorem MH:∀x:Fin 256,(bits BinOp.and IntKind.u8 ((x:Nat):Int) 1==1)=((x:Nat)%2==1):=by decide +kernel
theorem Rv:∀x:Fin 256,wrap64 (8+wrap64 (5*wrap64 (bits BinOp.and IntKind.u8 (((x:Nat):Int) / 2) 1)))=((8+5*((x:Nat) / 2%2):Nat):Int):=by decide +kernel
def NewM (M:PMc):Prop:=Wy.WyInv M∧M.picks=0∧∀p,Wy.P2 p→M.mem.words.getD p 0=0∧32≤M.mem.words.length∧M.mem.words.length≤256
def JobP (J P:Nat)(v:Value)(w:World):Prop:=(∀k,w.frozen? (κ J k)=false)∧J<w.heap.size∧w.cell? P=some v∧P<w.heap.size
theorem NR (ks:List Nat)(k:Nat)(hk:k≤15)(r:Nat):((Wy.jobs3 ks k).getD r []).length≤15:=by
 rw[gD];cases e:(Wy.jobs3 ks k)[r]? with
 |none=>exact Nat.zero_le _
 |some l=>have:=(Wy.jobs3_all hk l (List.mem_of_getElem? e)).1;show l.length≤15;omega
theorem Di (ks:List Nat)(k:Nat):(Wy.jobs3 ks k).length=3:=by simp[Wy.jobs3,Wy.js3]
def PkS (g o:Nat)(T:Int)(D:Nat)(Z:Int)(w:World):Prop:=g<w.heap.size∧w.cell? (κ g o)=some (.int .i64 T)∧w.cell? (κ g (o+1))=some (.int .u8 D)∧w.cell? (κ g (o+2))=some (.int .i64 Z)
def KsIn (AK:Option Addr)(gk ok m:Nat)(ks:List Nat)(w':World):Prop:=∀i,i<m→AK=some ⟨gk,ok,none⟩∧gk<w'.heap.size∧w'.cell? (κ gk (ok+i))=some (.int .u8 ((ks.getD i 0:Nat):Int))
def PsIn (AP:Option Addr)(gp op n:Nat)(fT:Nat→Int)(fD:Nat→Nat)(fZ:Nat→Int)(w':World):Prop:=∀i,i<n→AP=some ⟨gp,op,none⟩∧gp<w'.heap.size∧w'.cell? (κ gp (op+i*3))=some (.int .i64 (fT i))∧w'.cell? (κ gp (op+i*3+1))=some (.int .u8 (fD i:Int))∧w'.cell? (κ gp (op+i*3+2))=some (.int .i64 (fZ i))
theorem NZ:(prog.info? 29).map (fun i=>(i.zero,i.size,i.bytes))=some (some (.slice none 0 0),1,24):=by kernel_rfl
theorem OO [Inhabited PowO](ω w:World)(F:HP)(h:Sat ω w (powH*F))(a0 a1 a2 a3 a4 a5:Int)(a6:Nat)(ks:List Nat)(AK:Option Addr)(gk ok m ck:Nat)(hks:ks.length=m)(hk8:∀x∈ks,x<256)
  (HK:Hid (∀w' X,Sat ω w' (X*(powH*F))→KsIn AK gk ok m ks w')) (AP:Option Addr) (gp op n cp:Nat) (fT:Nat→Int) (fD:Nat→Nat) (fZ:Nat→Int) (hfD:∀i,i<n→fD i<256)
  (HPK:Hid (∀w' X,Sat ω w' (X*(powH*F))→PsIn AP gp op n fT fD fZ w')):
  Calls prog 5 #[.agg #[a0,a1,a2,a3,a4,a5,υ a6],.slice AK m ck,.slice AP n cp] w fun e w'=>e=.returned (.bool true)∧Sat ω w' (powH*F):=by
 obtain⟨N,hN⟩:∃N,w.heap.size=N:=⟨_,rfl⟩;have HX:Hid (Sat ω (w.alloc (.cells #[a0,a1,a2,a3,a4,a5,υ a6] 24)) (bk N 24 #[a0,a1,a2,a3,a4,a5,υ a6]*(powH*F))):=h_ (by rw[←hN];exact h.new _ _)
 obtain⟨BX,hBX⟩:∃BX:HP,BX=bk N 24 #[a0,a1,a2,a3,a4,a5,υ a6]:=⟨_,rfl⟩;have HAW:Hid (Calls prog 8 #[] (w.alloc (.cells #[a0,a1,a2,a3,a4,a5,υ a6] 24)) fun e w'=>e=.returned (.bool true)∧Sat ω w' (powH*(BX*F))):=h_ (OC ω _ _ (by rw[hBX];exact HX.o.swap))
 have HJ:Hid (∀w1,Sat ω w1 (powH*(BX*F))→∃J,w1.heap.size=J∧Sat ω (w1.alloc (.cells #[.slice none 0 0,.slice none 0 0,.slice none 0 0] 29)) (jxH J [(none,0),(none,0),(none,0)] (Wy.jobs3 ks 0)*(BX*(powH*F)))):=h_ (fun w1 h1=>⟨_,rfl,(Ts h1).perm (by show _=_*_;rw[show Wy.jobs3 ks 0=[[],[],[]] from rfl];ac_rfl)⟩)
 have hmk:∀w:World,_:=fun w=>run_make_row' (P:=prog) 28 29 (.slice none 0 0) 24 underlying28 NZ rfl .i64 .i64 3 (by omega) (by omega) w
 have hmc:madeCells #[.slice none 0 0] 3=#[.slice none 0 0,.slice none 0 0,.slice none 0 0]:=by first|kernel_rfl|simp[madeCells]
 have e33:((3:Nat):Int)=3:=rfl;simp only[hmc,e33] at hmk;obtain⟨i0,hi0,hz⟩:=Option.map_eq_some_iff.1 Fv;simp only[Prod.mk.injEq] at hz;obtain⟨hz0,hz1,hz2⟩:=hz;have HI:=h_ hi0;have HZ0:=h_ hz0;have HZ1:=h_ hz1;have HZ2:=h_ hz2;clear hi0 hz0 hz1 hz2;clear h;go_enter func5,ntmps5;go_upto_block 0 with(go_at_call 8;refine(HAW.o).mono ?_;rintro e w1 ⟨rfl,h1⟩;obtain⟨J,hJ,h2⟩:=HJ.o w1 h1;have H2:=h_ h2;clear h1 h2)
 go_cut [8] (fun c wx=>∃(k:Nat) (vs:List (Option Addr×Nat)),c=.int .i64 k∧k≤15∧vs.length=3∧Hid (Sat ω wx (jxH J vs (Wy.jobs3 ks k)*(BX*(powH*F)))))
 case first =>
  go_wp2_with fail;go_loopw [8] (fun c wr=>∃(k:Nat) (vs:List (Option Addr×Nat)),k≤m∧k≤15∧vs.length=3∧c=.int .i64 k∧Hid (Sat ω wr (jxH J vs (Wy.jobs3 ks k)*(BX*(powH*F))))) (fun c _=>15-(intOf c).toNat)
  case atStart=>exact⟨0,[(none,0),(none,0),(none,0)],by omega,by omega,rfl,rfl,H2⟩
  case round =>
   obtain⟨k,vs,hk,hk15,hvs,rfl,HK1⟩:=hrel;by_cases hlt:k<m
   ·by_cases h15:k<15
    ·have d1:(decide ((k:Int)<(m:Int)))=true:=by simp;omega
     have d2:(decide ((k:Int)<15))=true:=by simp;omega
     obtain⟨hKA,hgk,hkc⟩:=HK.o _ _ (HK1.o.perm (by ac_rfl:_=(jxH J vs (Wy.jobs3 ks k)*BX)*(powH*F))) k hlt
     have hHK:=h_ (fun w' X hh=>(HK.o w' X hh k hlt).2)
     have hx8:ks.getD k 0<256:=hk8 _ (by rw[gD,List.getElem?_eq_getElem (by omega)];exact List.getElem_mem _)
     have HST:Hid (Wy.jobs3 ks (k+1)=_):=h_ (Wy.jobs3_step ks k);subst hKA;obtain⟨x,hxx⟩:∃x,ks.getD k 0=x:=⟨_,rfl⟩;rw[hxx] at hkc HST hx8 hHK;obtain⟨p,hp⟩:∃p,Wy.codeOf (Wy.kindW x)=p:=⟨_,rfl⟩;rw[hp] at HST;have hkI:(k:Int)<(m:Int):=by omega
     have HTA:=h_ (fun w1 G (hG:Sat ω w1 G)=>MZ ω w1 G hG)
     clear hxx;obtain⟨Y,hY⟩:∃Y:HP,Y=jxH J vs (Wy.jobs3 ks k)*(BX*(powH*F)):=⟨_,rfl⟩;rw[←hY] at HK1;have HYK:Hid (∀w' X,Sat ω w' (X*Y)→gk<w'.heap.size∧w'.cell? (κ gk (ok+k))=some (.int .u8 x)):=h_ (fun w' X hh=>hHK.out w' (X*(jxH J vs (Wy.jobs3 ks k)*BX)) (hh.perm (by rw[hY];ac_rfl)))
     go_upto_if 39 with(go_at_call 21;refine(HTA.o _ _ HK1.o).mono ?_;rintro e wA ⟨g,rfl,hs⟩;have HA:=h_ hs;clear hs;obtain⟨qA,qB⟩:=HYK.o wA _ HA.o)
     have HB:Hid (Sat ω (wA.alloc (.cells #[.slice (some ⟨g,0,none⟩) Wy.takesP.length Wy.takesP.length] 32)) (bk wA.heap.size 32 #[.slice (some ⟨g,0,none⟩) Wy.takesP.length Wy.takesP.length]*(prH (some ⟨g,0,none⟩) Wy.takesP.length Wy.takesP*Y))):=h_ (HA.o.new _ _);obtain⟨P,hP⟩:∃P,wA.heap.size=P:=⟨_,rfl⟩;rw[hP] at HB ⊢;generalize (wA.alloc (.cells #[.slice (some ⟨g,0,none⟩) Wy.takesP.length Wy.takesP.length] 32))=wX at *
     clear qA qB hP HA;go_cut [] from 37 to 50 (fun wx=>∃g,Hid (Sat ω wx (bk P 32 #[.slice (some ⟨g,0,none⟩) p.length p.length]*(prH (some ⟨g,0,none⟩) p.length p*Y))))
     case first =>
      by_cases hx1:x%2=1
      ·have b1:(bits BinOp.and IntKind.u8 (x:Int) 1==1)=true:=by
        have:=MH ⟨x,hx8⟩
        simp only at this;rw[this];simp[hx1]
       obtain⟨qA,qB⟩:=HYK.o wX _ HB.o.assoc';have HPU:Hid (∀w1 G,Sat ω w1 G→Calls prog 22 #[ι (wrap64 (8+wrap64 (5*wrap64 (bits BinOp.and IntKind.u8 ((x:Int) / 2) 1))))] w1 (ProgNew ω G p)):=h_ (fun w1 G hG=>by
        have b2:=Rv ⟨x,hx8⟩;simp only at b2;rw[b2,←hp];unfold Wy.kindW;rw[if_pos hx1];exact PB ω w1 G hG _)
       have HPB:Hid (∀w' g3,Sat ω w' (prH (some ⟨g3,0,none⟩) p.length p*(bk P 32 #[.slice (some ⟨g,0,none⟩) Wy.takesP.length Wy.takesP.length]*(prH (some ⟨g,0,none⟩) Wy.takesP.length Wy.takesP*Y)))→P<w'.heap.size∧(∀i,w'.frozen? (κ P i)=false)∧(∃v,w'.cell? (κ P 0)=some v)∧Sat ω (w'.setCell P (.slice (some ⟨g3,0,none⟩) p.length p.length)) (bk P 32 #[.slice (some ⟨g3,0,none⟩) p.length p.length]*(prH (some ⟨g3,0,none⟩) p.length p*Y))):=h_ (fun w' g3 h1=>by
        have hb:=h1.swap.blk;refine⟨hb.lt,hb.frozen,⟨_,hb.cell 0⟩,?_⟩;have h2:=h1.swap.put 0 (.slice (some ⟨g3,0,none⟩) p.length p.length) rfl;exact(h2.perm (by ac_rfl:_=prH (some ⟨g,0,none⟩) Wy.takesP.length Wy.takesP*(bk P 32 #[.slice (some ⟨g3,0,none⟩) p.length p.length]*(prH (some ⟨g3,0,none⟩) p.length p*Y)))).right)
       go_wp2_with (go_at_call 22;refine(HPU.o _ _ HB.o).mono ?_;rintro e wC ⟨g3,rfl,hs⟩;obtain⟨m1,m2,⟨m3,m4⟩,m5⟩:=HPB.o _ _ hs;have HC:=h_ m5;clear hs m5);go_meet;exact⟨g3,HC⟩
      ·have b1:(bits BinOp.and IntKind.u8 (x:Int) 1==1)=false:=by
        have:=MH ⟨x,hx8⟩
        simp only at this;rw[this];simp[hx1]
       have HPE:Hid (p=Wy.takesP):=h_ (by rw[←hp];unfold Wy.kindW;rw[if_neg hx1];rfl)
       go_wp2_with fail;go_meet;exact⟨g,by rw[HPE.o];exact HB⟩
     case rest =>
      obtain⟨g2,HB2⟩:=hcut;obtain⟨r,hr⟩:∃r,k%3=r:=⟨_,rfl⟩;have hr3:r<3:=by omega
      have hrm:(k:Int).tmod 3=(r:Int):=by rw[←hr];exact(Int.ofNat_tmod k 3).symm
      have hrm2:(k:Int)%3=(r:Int):=by omega
      have hri:(r:Int)<3:=by omega
      obtain⟨L,hL⟩:∃L,Wy.jobs3 ks k=L:=⟨_,rfl⟩;have hL3:L.length=3:=by rw[←hL];exact Di ks k
      have hn5:(L.getD r []).length≤15:=by rw[←hL];exact NR ks k hk15 r
      rw[hL] at hY HST;rw[hr] at HST;obtain⟨l,hl⟩:∃l,p.length=l:=⟨_,rfl⟩;have h0:Sat ω wc (jxH J vs L*(prH (some ⟨g2,0,none⟩) p.length p*(bk P 32 #[.slice (some ⟨g2,0,none⟩) p.length p.length]*(BX*(powH*F))))):=HB2.o.perm (by rw[hY];ac_rfl)
      obtain⟨A0,c0,xs,R,q1,q2,q3,q4,q5⟩:=SJ h0.drew (by rw[hvs,hL3]) (i:=r) (by omega)
      obtain⟨n0,hn0⟩:∃n0,(L.getD r []).length=n0:=⟨_,rfl⟩;rw[hn0] at q1 q4 q5 hn5;have HQ5:Hid (∀w' A' c',Sat ω w' (row 32 1 (.slice A' (n0+1) c') (n0+1) (xs++[.slice (some ⟨g2,0,none⟩) l l])*(bk J 29 (jjV vs L).toArray*(R*(prH (some ⟨g2,0,none⟩) l p*(bk P 32 #[.slice (some ⟨g2,0,none⟩) l l]*(BX*(powH*F)))))))→Sat ω (w'.setCell (κ J r) (.slice A' (n0+1) c')) (jxH J (vs.set r (A',c')) (Wy.jobs3 ks (k+1))*(bk P 32 #[.slice (some ⟨g2,0,none⟩) l l]*(BX*(powH*F))))):=h_ (fun w' A' c' hh=>by
       rw[HST.o];rw[←hl] at hh ⊢;exact q5 w' _ A' c' g2 p (hh.perm (by ac_rfl)))
      rw[hl] at h0 q4;have HQ4:=h_ q4;have HS1:Hid (∀w' X,Sat ω w' (X*(bk J 29 (jjV vs L).toArray*(R*(prH (some ⟨g2,0,none⟩) l p*(bk P 32 #[.slice (some ⟨g2,0,none⟩) l l]*(BX*(powH*F)))))))→w'.cell? (κ J r)=some (.slice A0 n0 c0)∧JobP J P (.slice (some ⟨g2,0,none⟩) l l) w'):=h_ (fun w' X hh=>by
       have hb:=hh.swap.blk;have hp:=(hh.perm (by ac_rfl:_=bk P 32 #[.slice (some ⟨g2,0,none⟩) l l]*(X*(bk J 29 (jjV vs L).toArray*(R*(prH (some ⟨g2,0,none⟩) l p*(BX*(powH*F)))))))).blk
       refine⟨?_,hb.frozen,hb.lt,hp.cell 0,hp.lt⟩;rw[hb.cell];have h9:=(h0.drew.assoc:Sat ω _ (bk J 29 (jjV vs L).toArray*_)).blk.cell r;rw[←h9];exact q1)
      have HSF:Hid (∀w' vs' L',Sat ω w' (jxH J vs' L'*(bk P 32 #[.slice (some ⟨g2,0,none⟩) l l]*(BX*(powH*F))))→JobP J P (.slice (some ⟨g2,0,none⟩) l l) w'):=h_ (fun w' vs' L' hh=>by
       have hb:=(hh.assoc:Sat ω w' (bk J 29 (jjV vs' L').toArray*_)).blk;have hp:=hh.swap.blk;exact⟨hb.frozen,hb.lt,hp.cell 0,hp.lt⟩)
      have HRD:Hid (∀(w1:World) B' d' e',Reads (w1.alloc (.cells #[.slice B' d' e'] 32)) (w1.heap.size+1) 1 (some ⟨w1.heap.size,0,none⟩) 1 [.slice B' d' e']):=h_ (fun w1 B' d' e'=>by
       have h9:=Reads.of_blk (size:=1) (n:=1) (Blk.new w1 32 #[.slice B' d' e']) rfl;rw[World.size_alloc] at h9;exact h9)
      have HON:Hid (∀B' d' e',∀u∈([Value.slice B' d' e']:List Value),u.oneCell'=true):=h_ (by intro B' d' e' u hu;simp at hu;subst hu;rfl)
      have hvs2:∀a,(vs.set r a).length=3:=fun a=>by rw[List.length_set];exact hvs
      have HS0:=h_ (HS1.o _ _ HQ4.o);have HSJ:=h_ (fun o=>HS1.o _ _ (HQ4.o.junk o))
      clear q1 q2 q3 q4 q5 h0 hr hn0 hl hY hL hL3 HST HB2 HYK HK1 HB hp hHK hkc hgk;go_wp2;refine gN (JobP J P (.slice (some ⟨g2,0,none⟩) l l)) HS0.o.2 fun hh0=>?_
      refine tH 0 ?_ rfl ?_ (tH 1 ?_ rfl ?_ (tH 2 ?_ rfl ?_ (tH 3 ?_ rfl ?_ (tH 4 ?_ rfl ?_ (tH 5 ?_ rfl ?_ (tH 6 ?_ rfl ?_ (tH 8 ?_ rfl ?_ ?_)))))));all_goals (try (
       intro w hSw;obtain⟨jf,jl,j1,jl1⟩:=hSw;try simp only[sP]
       go_simp<;>(try with_reducible rfl)))
      try simp only[sP]
      refine rH [7,9] ?_;refine cH rfl (fun K hK=>?_) (nH rfl fun K hK=>?_)
      ·obtain⟨x0,x1,x2,x3,x4⟩:=HS0.o;go_simp;refine hK.q ⟨x1,x2,x3,x4⟩ fun hh1=>?_
       clear hK K hh0;try simp only[sP]
       refine oH 9 rfl fun K hK=>?_
       go_simp;refine hK.q (HSJ.o _).2 fun hh2=>?_
       clear hK K hh1;try simp only[sP]
       refine oH 10 rfl fun K hK=>?_
       refine BI 29 32 1 24 underlying29 HI.o HZ0.o HZ1.o HZ2.o (HQ4.o.junk _) (HRD.o _ _ _ _) (HON.o _ _ _) ?_;intro A' c' wB hs;obtain⟨y0,y1,y2,y3,y4⟩:=HS1.o _ _ hs;have HF:=h_ (HQ5.o wB A' c' hs);clear hs;refine hK.q ⟨y1,y2,y3,y4⟩ fun hh3=>?_
       clear hK K hh2;try simp only[sP]
       refine tH 11 ?_ rfl ?_ ?_;all_goals (try (
        intro w hSw;obtain⟨jf,jl,j1,jl1⟩:=hSw;go_simp<;>(try with_reducible rfl)))
       try simp only[sP]
       refine oH 12 rfl fun K hK=>?_
       go_simp;refine hK.q (HSF.o _ _ _ HF.o) fun hh4=>?_
       clear hK K hh3 y0 y1 y2 y3 y4;try simp only[sP]
       refine dN ?_;go_wp2;exact⟨⟨k+1,vs.set r (A',c'),by omega,by omega,hvs2 _,by go_num,h_ (HF.o.swap.right)⟩,by simp[intOf];omega⟩
      ·go_simp;refine hK.q (HSJ.o _).2 fun hh1=>?_
       clear hK K hh0;try simp only[sP]
       obtain⟨x0,x1,x2,x3,x4⟩:=HS0.o;have x5:J<wc.heap.size:=x2;have x6:wc.cell? (κ J r)=some (.slice A0 n0 c0):=x0;refine oH 7 rfl fun K hK=>?_
       go_simp;refine hK.q (HSJ.o _).2 fun hh2=>?_
       clear hK K hh1;try simp only[sP]
       refine oH 10 rfl fun K hK=>?_
       refine BI 29 32 1 24 underlying29 HI.o HZ0.o HZ1.o HZ2.o (HQ4.o.junk _) (HRD.o _ _ _ _) (HON.o _ _ _) ?_;intro A' c' wB hs;obtain⟨y0,y1,y2,y3,y4⟩:=HS1.o _ _ hs;have HF:=h_ (HQ5.o wB A' c' hs);clear hs;refine hK.q ⟨y1,y2,y3,y4⟩ fun hh3=>?_
       clear hK K hh2;try simp only[sP]
       refine tH 11 ?_ rfl ?_ ?_;all_goals (try (
        intro w hSw;obtain⟨jf,jl,j1,jl1⟩:=hSw;go_simp<;>(try with_reducible rfl)))
       try simp only[sP]
       refine oH 12 rfl fun K hK=>?_
       go_simp;refine hK.q (HSF.o _ _ _ HF.o) fun hh4=>?_
       clear hK K hh3 y0 y1 y2 y3 y4;try simp only[sP]
       refine dN ?_;go_wp2;exact⟨⟨k+1,vs.set r (A',c'),by omega,by omega,hvs2 _,by go_num,h_ (HF.o.swap.right)⟩,by simp[intOf];omega⟩
    ·have d1:(decide ((k:Int)<(m:Int)))=true:=by simp;omega
     have d2:(decide ((k:Int)<15))=false:=by simp;omega
     go_wp2_with fail;go_meet;exact⟨k,vs,rfl,hk15,hvs,HK1⟩
   ·have d1:(decide ((k:Int)<(m:Int)))=false:=by simp;omega
    go_wp2_with fail;go_meet;exact⟨k,vs,rfl,hk15,hvs,HK1⟩
 case rest =>
  obtain⟨k,vs,rfl,hk15,hvs,HK1⟩:=hcut;obtain⟨L,hL⟩:∃L,Wy.jobs3 ks k=L:=⟨_,rfl⟩;obtain⟨G,hG⟩:∃G:HP,G=jjX (some ⟨J,0,none⟩) 3 vs L*(BX*F):=⟨_,rfl⟩;have HSU:Hid (∀w1 X,Sat ω w1 X→Calls prog 11 #[.agg #[a0,a1,a2,a3,a4,a5,υ a6]] w1 fun e w'=>∃r:PSt,e=.returned (.agg r)∧Hid (4≤r.writes∧20≤r.fuel∧r.start≤1000)∧Hid (Sat ω w' X)):=h_ (fun w1 X h1=>by
   refine(Ot ω w1 X h1 a0 a1 a2 a3 a4 a5 a6).mono ?_;rintro e w2 ⟨r,he,hb,h2⟩;exact⟨r,he,hb,h_ h2⟩)
  have HNW:Hid (∀w1 (r:PSt),4≤r.writes∧20≤r.fuel∧r.start≤1000→Sat ω w1 (jxH J vs L*(BX*(powH*F)))→Calls prog 10 #[.agg r,.slice (some ⟨J,0,none⟩) 3 3] w1 fun e w'=>∃b M,e=.returned (.pointer (some ⟨b,0,none⟩))∧Hid (NewM M)∧Hid (Sat ω w' (mcH b M*(powH*G)))):=h_ (fun w1 r hr h1=>by
   have hl3:L.length=3:=by rw[←hL];exact Di ks k
   have h2:=Uc (by rw[hvs,hl3]) (by omega) h1
   rw[hl3] at h2;refine(PQ ω w1 (BX*(powH*F)) r (some ⟨J,0,none⟩) 3 3 L hl3 (by omega) (fun l hl=>?_) vs (by rw[hvs,hl3]) h2).mono ?_
   ·rw[←hL] at hl;obtain⟨q1,q2⟩:=Wy.jobs3_all hk15 l hl;exact⟨q1,fun p hp=>⟨by obtain⟨dep,hc⟩:=(q2 p hp).code;exact hc.len,(q2 p hp).ok⟩⟩
   ·rintro e w2 ⟨b,rfl,h3⟩;refine⟨b,_,rfl,h_ ?_,h_ (h3.perm (by rw[hG];ac_rfl))⟩
    rw[←hL];exact⟨Wy.WyInv.new r hr.1 hr.2.1 hr.2.2 ks hk15,rfl,fun p hp=>Wy.new_word r _ hp⟩)
  have HBX:Hid (Blk wc N 24 #[a0,a1,a2,a3,a4,a5,υ a6]):=h_ (by
   have h1:=HK1.o.right;rw[hBX] at h1;exact h1.blk)
  rw[hL] at HK1;have kb:=HBX.o;have kf:=kb.frozen;have kl:=kb.lt;have k0:=kb.c 0;have k1:=kb.c 1;have k2:=kb.c 2;have k3:=kb.c 3;have k4:=kb.c 4;have k5:=kb.c 5;have k6:=kb.c 6;clear kb;have HWO:Hid (∀w1 b M,NewM M→Sat ω w1 (mcH b M*(powH*G))→Calls prog 18 #[.pointer (some ⟨b,0,none⟩)] w1 fun e w'=>∃WA nw wcp W,e=.returned (.slice WA nw wcp)∧Hid (W.length=nw∧32≤nw∧nw≤256∧∀p,Wy.P2 p→W.getD p 0=0)∧Hid (Sat ω w' (mcH b M*(powH*(row 22 1 (.slice WA nw wcp) nw (vU W)*G))))):=h_ (fun w1 b M hM h1=>by
   refine(IR ω w1 _ b M h1 hM.1.fine).mono ?_;rintro e w2 ⟨A,c,rfl,h2⟩;have h3:=hM.2.2 8 (.inl rfl);exact⟨A,_,c,_,rfl,h_ ⟨rfl,h3.2.1,h3.2.2,fun p hp=>(hM.2.2 p hp).1⟩,h_ (h2.perm (by ac_rfl))⟩)
  go_upto_block 2 with(first
   |(go_at_call 11;refine(HSU.o _ _ HK1.o).mono ?_;rintro e w1 ⟨r,rfl,HR,H1⟩)
   |(go_at_call 10;refine(HNW.o _ _ HR.o H1.o).mono ?_;rintro e w2 ⟨b,M,rfl,HM,H2⟩)
   |(go_at_call 18;refine(HWO.o _ b M HM.o H2.o).mono ?_;rintro e w3 ⟨WA,nw,wcp,W,rfl,HWW,H3⟩))
  obtain⟨G2,hG2⟩:∃G2:HP,G2=row 22 1 (.slice WA nw wcp) nw (vU W)*G:=⟨_,rfl⟩;rw[←hG2] at H3;have HX0:Hid (∀(w':World) M',Sat ω w' (mcH b M'*(powH*G2))→Sat ω w' (powH*F)):=h_ (fun w' M' h1=>by
   have h2:=h1.right;rw[hG2,hG] at h2;exact(h2.perm (by ac_rfl:_=(row 22 1 (.slice WA nw wcp) nw (vU W)*(jjX (some ⟨J,0,none⟩) 3 vs L*BX))*(powH*F))).right)
  have HPP:Hid (∀(w':World) X,Sat ω w' (X*(powH*G2))→PsIn AP gp op n fT fD fZ w'):=h_ (fun w' X h1 i hi=>by
   refine HPK.o w' (X*(row 22 1 (.slice WA nw wcp) nw (vU W)*(jjX (some ⟨J,0,none⟩) 3 vs L*BX))) (h1.perm ?_) i hi;rw[hG2,hG];ac_rfl)
  have HM0:Hid (Wy.WyInv M∧M.picks=0):=h_ ⟨HM.o.1,HM.o.2.1⟩;have HG2:=h_ hG2;clear HSU HNW HWO kf kl k0 k1 k2 k3 k4 k5 k6 hL HBX HK1 HAW HJ HX HI HZ0 HZ1 HZ2 hmc hmk HK HPK hBX hN HM hG hG2;go_cut [12] (fun c wx=>∃M1:PMc,Hid (Wy.WyInv M1∧M1.picks≤1200)∧Hid (Sat ω wx (mcH b M1*(powH*G2))))
  case first =>
   go_wp2_with fail;go_loopw [12] (fun c wr=>∃(i:Nat) (M1:PMc),i≤n∧i≤80∧c=.int .i64 i∧Hid (Wy.WyInv M1∧M1.picks≤15*i)∧Hid (Sat ω wr (mcH b M1*(powH*G2)))) (fun c _=>80-(intOf c).toNat)
   case atStart=>exact⟨0,M,by omega,by omega,rfl,h_ ⟨HM0.o.1,by rw[HM0.o.2];omega⟩,H3⟩
   case round =>
    obtain⟨i,M1,hi,hi60,rfl,HM1,HS1⟩:=hrel;by_cases hlt:i<n
    ·by_cases h60:i<80
     ·have d1:(decide ((i:Int)<(n:Int)))=true:=by simp;omega
      have d2:(decide ((i:Int)<80))=true:=by simp;omega
      obtain⟨hPA,_⟩:=HPP.o _ _ HS1.o i hlt;have hD8:=hfD i hlt;have HPS:=h_ (fun w' X hh=>(HPP.o w' X hh i hlt).2)
      obtain⟨T,hT⟩:∃T,fT i=T:=⟨_,rfl⟩;obtain⟨D,hDD⟩:∃D,fD i=D:=⟨_,rfl⟩;obtain⟨Z,hZ⟩:∃Z,fZ i=Z:=⟨_,rfl⟩;rw[hT,hDD,hZ] at HPS;rw[hDD] at hD8;clear hT hDD hZ;subst hPA;have HPI:Hid (∀w1 X,Sat ω w1 X→Calls prog 12 #[.pointer (some ⟨b,0,none⟩),.agg #[T,.int .u8 D,Z],ι 14] w1 fun e w'=>∃r:Nat,Hid (r≤14)∧e=.returned r∧Hid (Sat ω w' X)):=h_ (fun w1 X h1=>PG ω w1 X h1 _ T Z D 14 (by omega))
      have HWH:Hid (∀w1 M' X,Wy.WyInv M'→Sat ω w1 (mcH b M'*X)→Calls prog 14 #[.pointer b,.agg #[T,.int .u8 D,Z]] w1 fun e w'=>∃r:Nat,Hid (r<M'.thr.length)∧e=.returned r∧Hid (Sat ω w' (mcH b M'*X))):=h_ (fun w1 M' X hM h1=>RU ω w1 X b M' h1 (by rw[hM.len];omega) (by rw[hM.len];omega) T Z D)
      have HPK2:Hid (∀w1 M' j,Wy.WyInv M'→M'.picks≤1200→j<M'.thr.length→Sat ω w1 (mcH b M'*(powH*G2))→Calls prog 13 #[.pointer b,j,.int .u8 D] w1 fun e w'=>e=.returned (ι 0)∧Hid (Sat ω w' (mcH b (M'.pick j D)*(powH*G2)))):=h_ (fun w1 M' j hM hp hj h1=>by
       refine(Le ω w1 G2 b M' hM.fine (by omega) j D hj hD8 h1).mono ?_
       rintro e w2 ⟨rfl,h2⟩;exact⟨rfl,h2⟩)
      have hiI:(i:Int)<(n:Int):=by omega
      clear hD8;go_wp2_with fail;go_loopw [13] (fun c wr=>∃(k:Nat) (M2:PMc),k≤15∧c=.int .i64 k∧Hid (Wy.WyInv M2∧M2.picks≤15*i+k)∧Hid (Sat ω wr (mcH b M2*(powH*G2)))) (fun c _=>15-(intOf c).toNat)
      case atStart=>exact⟨0,M1,by omega,rfl,h_ ⟨HM1.o.1,by have:=HM1.o.2;omega⟩,HS1⟩
      case round =>
       obtain⟨k2,M2,hk2,rfl,HM2,HS2⟩:=hrel;obtain⟨hgp,hp0,hp1,hp2⟩:=HPS.o _ _ HS2.o;go_upto_region 21 with(go_at_call 12;refine(HPI.o _ _ HS2.o).mono ?_;rintro e w3 ⟨r,hr,rfl,H3⟩)
       case roundEnd =>
        have HE:Hid (Wy.WyInv M2∧M2.picks≤15*(i+1)):=h_ ⟨HM2.o.1,by have h1:=HM2.o.2;omega⟩
        exact⟨⟨i+1,M2,by omega,by omega,by go_num,HE,H3⟩,by simp[intOf];omega⟩
       rename_i hkr KK hKK0;have HKK:=h_ hKK0;clear hKK0;have hr12:=hr.out;have hpk:M2.picks≤1200:=by have:=HM2.o.2;omega
       have HS0:=HPS.o _ _ H3.o.drew;refine gN (PkS gp (op+i*3) T D Z) HS0 fun hh0=>?_
       refine tH 0 ?_ rfl ?_ (tH 1 ?_ rfl ?_ (tH 2 ?_ rfl ?_ (tH 3 ?_ rfl ?_ (tH 4 ?_ rfl ?_ (tH 5 ?_ rfl ?_ (tH 7 ?_ rfl ?_ (tH 8 ?_ rfl ?_ (tH 9 ?_ rfl ?_ (tH 10 ?_ rfl ?_ (tH 11 ?_ rfl ?_ ?_))))))))));all_goals (try (
        intro w hSw;obtain⟨jl,j0,j1,j2⟩:=hSw;try simp only[sP]
        go_simp<;>(try with_reducible rfl)))
       try simp only[sP]
       refine oH 6 rfl fun K hK=>?_
       go_simp;go_at_call 14;refine(HWH.o _ M2 _ HM2.o.1 H3.o.drew).mono ?_;rintro e wA ⟨j,hj,rfl,HA⟩;refine hK.q (HPS.o _ _ HA.o) fun hh1=>?_
       clear hK K hh0;try simp only[sP]
       refine oH 12 rfl fun K hK=>?_
       go_simp;go_at_call 13;refine(HPK2.o _ M2 j HM2.o.1 hpk hj.out HA.o).mono ?_;rintro e wB ⟨rfl,HB⟩;refine hK.q (HPS.o _ _ HB.o) fun hh2=>?_
       clear hK K hh1;try simp only[sP]
       refine dN ?_;have HM3:Hid (Wy.WyInv (M2.pick j D)∧(M2.pick j D).picks≤15*i+(k2+1)):=h_ ⟨HM2.o.1.pick (by omega) j D,by have h1:=Ee M2 j D;have h2:=HM2.o.2;omega⟩
       have hk13:k2+1≤15:=by omega
       clear hr12 hkr hpk;refine HKK.o _ _ ?_;clear HKK;go_wp2;exact⟨⟨k2+1,M2.pick j D,hk13,by go_num,HM3,HB⟩,by simp[intOf];omega⟩
     ·have d1:(decide ((i:Int)<(n:Int)))=true:=by simp;omega
      have d2:(decide ((i:Int)<80))=false:=by simp;omega
      go_wp2_with fail;go_meet;exact⟨M1,h_ ⟨HM1.o.1,by have:=HM1.o.2;omega⟩,HS1⟩
    ·have d1:(decide ((i:Int)<(n:Int)))=false:=by simp;omega
     go_wp2_with fail;go_meet;exact⟨M1,h_ ⟨HM1.o.1,by have:=HM1.o.2;omega⟩,HS1⟩
  case rest =>
   obtain⟨M1,HM1,HS1⟩:=hcut;obtain⟨ts,hts⟩:∃ts,M1.attempts=ts:=⟨_,rfl⟩;obtain⟨tl,htl⟩:∃tl,ts.length=tl:=⟨_,rfl⟩;obtain⟨o,ho⟩:∃o,Wy.orderP ts tl=o:=⟨_,rfl⟩;have HTS:Hid (ts.length=tl∧tl≤4000∧o.length=tl):=h_ ⟨htl,by
    have h1:=DW (K:=M1.picks) M1.thr (fun i t ht=>(HM1.o.1.fine.thr i t ht).1) M1.thr.length (Nat.le_refl _)
    rw[DX,hts,htl,HM1.o.1.len] at h1
    have:=HM1.o.2
    omega,by rw[←ho];exact Aw ts tl⟩
   have HLT:Hid (∀k,k<tl→o.getD k 0<tl):=h_ fun k hk=>by rw[←ho];exact DR ts hk
   have HWY:Hid (∀i j V,i<tl→o[i]?=some j→hpB W ts o i nw V→Wy.wayOk (V.getD 8 0) (V.getD 13 0) (Wy.at_ ts j)=true):=h_ (fun i j V hi hj hV=>by
    obtain⟨w1,w2,w3,w4⟩:=HWW.o;subst ho htl;refine HM1.o.1.way hts hi hj (fun p hp=>hV.2 p ?_ ?_) w4
    ·rcases hp with rfl|rfl<;>omega
    ·rcases hp with rfl|rfl<;>omega)
   have HAT:Hid (Calls prog 15 #[.pointer b] wc fun e w'=>∃A c qs,e=.returned (.slice A tl c)∧Hid (qs.length=ts.length)∧Hid (Sat ω w' (row 52 14 (.slice A tl c) tl (toVs qs ts)*(toAll qs ts*(mcH b M1*(powH*G2)))))):=h_ (by
    refine(Dg ω wc G2 b M1 HM1.o.1.fine HM1.o.1.past (by have:=HM1.o.2;omega) HS1.o).mono ?_
    rintro e w2 ⟨A,c,rfl,qs,h2,h3⟩;rw[hts] at h2 h3 ⊢;rw[htl] at h3 ⊢;exact⟨A,c,qs,rfl,h_ (h2.trans htl),h_ h3⟩)
   have HSH:Hid (∀t∈ts,t.cells.length≤1000):=h_ (fun t ht=>(HM1.o.1.short t (by rw[hts];exact ht)).2)
   have HOR:Hid (∀w1 A c qs X,qs.length=ts.length→Sat ω w1 (row 52 14 (.slice A tl c) tl (toVs qs ts)*(toAll qs ts*X))→Calls prog 23 #[.slice A tl c] w1 (fun e w'=>∃B d,e=.returned (.slice B tl d)∧Hid (Sat ω w' (row 3 1 (.slice B tl d) tl (vI o)*(row 52 14 (.slice A tl c) tl (toVs qs ts)*(toAll qs ts*X)))))):=h_ (fun w1 A c qs X hq h1=>by
    have:=HTS.o
    rw[←ho];refine(Fr ω w1 X A tl c qs ts hq htl (by omega) h1).mono ?_
    rintro e w2 ⟨B,d,rfl,h2⟩;exact⟨B,d,rfl,h_ h2⟩)
   have HXX:Hid (∀(w':World) X,Sat ω w' (X*(mcH b M1*(powH*G2)))→Sat ω w' (powH*F)):=h_ (fun w' X h1=>HX0.o w' M1 h1.right)
   obtain⟨E,hE⟩:∃E:HP,E=mcH b M1*(powH*G):=⟨_,rfl⟩;have HEE:Hid (mcH b M1*(powH*G2)=row 22 1 (.slice WA nw wcp) nw (vU W)*E):=h_ (by rw[HG2.o,hE];ac_rfl)
   have HHE:Hid (∀w1 A c qs X i,qs.length=ts.length→i≤tl→Sat ω w1 (X*(row 52 14 (.slice A tl c) tl (toVs qs ts)*(toAll qs ts*(row 22 1 (.slice WA nw wcp) nw (vU W)*E))))→Calls prog 24 #[.slice WA nw wcp,.slice A tl c,(i:Nat)] w1 fun e w'=>∃A' c' V,e=.returned (.slice A' nw c')∧Hid (hpB W ts o i nw V)∧Hid (Sat ω w' (row 22 1 (.slice A' nw c') nw (vU V)*(X*(row 52 14 (.slice A tl c) tl (toVs qs ts)*(toAll qs ts*(row 22 1 (.slice WA nw wcp) nw (vU W)*E))))))):=h_ (fun w1 A c qs X i hq hi h1=>by
    obtain⟨w1',w2',w3',w4'⟩:=HWW.o
    have:=HTS.o
    refine(Po ω w1 (X*E) WA nw wcp W w1' w2' w3' A tl c qs ts hq htl (by omega) HSH.o i hi (h1.perm (by ac_rfl))).mono ?_
    rintro e w2 ⟨A',c',V,rfl,h2,h3⟩;rw[ho] at h2;exact⟨A',c',V,rfl,h2,h_ (h3.perm (by ac_rfl))⟩)
   clear hts htl ho hE HM0 HM1 HX0 HPP HG2 H3;go_upto_block 6 with(first
    |(go_at_call 15;refine(HAT.o).mono ?_;rintro e w4 ⟨A,c4,qs,rfl,hq,H4⟩)
    |(go_at_call 23;refine(HOR.o _ A c4 qs _ hq.out H4.o).mono ?_;rintro e w5 ⟨OA,oc,rfl,H5⟩))
   rw[HEE.o] at HXX H5;clear HAT HOR H4 HS1 HEE;go_wp2_with fail;go_loopw [16] (fun c wr=>∃i:Nat,i≤tl∧c=.int .i64 i∧Hid (Sat ω wr (row 3 1 (.slice OA tl oc) tl (vI o)*(row 52 14 (.slice A tl c4) tl (toVs qs ts)*(toAll qs ts*(row 22 1 (.slice WA nw wcp) nw (vU W)*E)))))) (fun c _=>tl-(intOf c).toNat)
   case atStart=>exact⟨0,by omega,rfl,H5⟩
   case round =>
    obtain⟨i,hi,rfl,HS⟩:=hrel;by_cases hlt:i<tl
    ·have d1:(decide ((i:Int)<(tl:Int)))=true:=by simp;omega
     obtain⟨go,hOA,hgo,ko⟩:=HS.o.rowCell (i:=i) (Jg o (by have:=HTS.o;omega))
     have hj:=HLT.o i hlt;have HJ:Hid (o[i]?=some (o.getD i 0)):=h_ (by have:=HTS.o;rw[gD,List.getElem?_eq_getElem (by omega)];rfl)
     obtain⟨j,hjj⟩:∃j,o.getD i 0=j:=⟨_,rfl⟩;rw[hjj] at ko hj HJ;have ht:ts[j]?=some (Wy.at_ ts j):=by
      unfold Wy.at_
      have:=HTS.o
      rw[gD,List.getElem?_eq_getElem (by omega)];rfl
     obtain⟨g,B1,d9,B,d,hA,hg,q0,q1,q2,q3,q4,q5,q6,q7,q8,q9,q10,q11,q12,q13⟩:=RO (HS.o.perm (by ac_rfl:_=row 52 14 (.slice A tl c4) tl (toVs qs ts)*(toAll qs ts*(row 3 1 (.slice OA tl oc) tl (vI o)*(row 22 1 (.slice WA nw wcp) nw (vU W)*E))))) hq.out ht
     have HCL:Hid (∃R,toAll qs ts=row 54 2 (.slice B (Wy.at_ ts j).cells.length d) (Wy.at_ ts j).cells.length (vS (Wy.at_ ts j).cells)*R):=h_ (by
      obtain⟨g',B',d',R,hA',_,_,k11,hR⟩:=RN (HS.o.perm (by ac_rfl:_=row 52 14 (.slice A tl c4) tl (toVs qs ts)*(toAll qs ts*(row 3 1 (.slice OA tl oc) tl (vI o)*(row 22 1 (.slice WA nw wcp) nw (vU W)*E))))) hq.out ht
      rw[hA] at hA';cases hA';rw[q11] at k11;cases k11;exact⟨R,hR⟩)
     subst hA hOA;have HWj:Hid (∀V,hpB W ts o i nw V→Wy.wayOk (V.getD 8 0) (V.getD 13 0) (Wy.at_ ts j)=true):=h_ fun V hV=>HWY.o i j V hlt HJ.o hV
     clear HWY ht HJ hjj;generalize Wy.at_ ts j=TT at *
     obtain⟨th,jb,ty,K,er,bg,st,bo,en,rd,cs,sl⟩:=TT;dsimp only at q0 q1 q2 q3 q4 q5 q6 q7 q8 q9 q10 q11 q12 q13 HCL;obtain⟨xb,hxb⟩:∃xb,wr.heap.size=xb:=⟨_,rfl⟩;have HX6:Hid (Sat ω (wr.alloc (.cells #[th,jb,ty,.bool false,K,er,υ bg,υ st,bo,en,.slice B1 rd.length d9,.slice B cs.length d,.slice none 0 0,.string ⟨sl.toArray⟩] 52)) ((bk xb 52 #[th,jb,ty,.bool false,K,er,υ bg,υ st,bo,en,.slice B1 rd.length d9,.slice B cs.length d,.slice none 0 0,.string ⟨sl.toArray⟩]*row 3 1 (.slice (some ⟨go,0,none⟩) tl oc) tl (vI o))*(row 52 14 (.slice (some ⟨g,0,none⟩) tl c4) tl (toVs qs ts)*(toAll qs ts*(row 22 1 (.slice WA nw wcp) nw (vU W)*E))))):=h_ (by
      have h1:=HS.o.new #[th,jb,ty,.bool false,K,er,υ bg,υ st,bo,en,.slice B1 rd.length d9,.slice B cs.length d,.slice none 0 0,.string ⟨sl.toArray⟩] 52;rw[hxb] at h1;exact h1.perm (by ac_rfl))
     have HH6:=h_ (HHE.o _ _ c4 qs _ i hq.out hi HX6.o);have HFX:Hid (∀w' A7 c7 V,hpB W ts o i nw V→Sat ω w' (row 22 1 (.slice A7 nw c7) nw (vU V)*((bk xb 52 #[th,jb,ty,.bool false,K,er,υ bg,υ st,bo,en,.slice B1 rd.length d9,.slice B cs.length d,.slice none 0 0,.string ⟨sl.toArray⟩]*row 3 1 (.slice (some ⟨go,0,none⟩) tl oc) tl (vI o))*(row 52 14 (.slice (some ⟨g,0,none⟩) tl c4) tl (toVs qs ts)*(toAll qs ts*(row 22 1 (.slice WA nw wcp) nw (vU W)*E))))) →
       xb<w'.heap.size∧w'.cell? (κ xb 4)=some (.int .i64 K)∧w'.cell? (κ xb 11)=some (.slice B cs.length d)∧w'.cell? (κ xb 13)=some (.string ⟨sl.toArray⟩) ∧
       (∃gh,A7=some ⟨gh,0,none⟩∧gh<w'.heap.size∧w'.cell? (κ gh 8)=some (.int .u64 ((V.getD 8 0:Nat):Int))∧w'.cell? (κ gh 13)=some (.int .u64 ((V.getD 13 0:Nat):Int))) ∧
       (∀c:Nat×Nat,cs=[c]→∃gc,B=some ⟨gc,0,none⟩∧gc<w'.heap.size∧w'.cell? (κ gc 0)=some (.int .i64 c.1)∧w'.cell? (κ gc 1)=some (.int .u64 c.2)) ∧
       Sat ω w' (row 3 1 (.slice (some ⟨go,0,none⟩) tl oc) tl (vI o)*(row 52 14 (.slice (some ⟨g,0,none⟩) tl c4) tl (toVs qs ts)*(toAll qs ts*(row 22 1 (.slice WA nw wcp) nw (vU W)*E))))):=h_ (fun w' A7 c7 V hV h1=>by
      obtain⟨_,w2',_,_⟩:=HWW.o;have hl:=hV.1;have hb:=h1.swap.assoc.blk;obtain⟨gh,e1,e2,e3⟩:=h1.rowCell (OY V (by omega:8<V.length))
      obtain⟨gh2,f1,_,f3⟩:=h1.rowCell (OY V (by omega:13<V.length))
      rw[e1] at f1;cases f1;refine⟨hb.lt,hb.cell 4,hb.cell 11,hb.cell 13,⟨gh,e1,e2,e3,f3⟩,fun c hc=>?_,h1.right.assoc.right⟩
      obtain⟨R,hR⟩:=HCL.o;subst hc;rw[hR] at h1;have h2:=h1.perm (by ac_rfl:_=row 54 2 (.slice B [c].length d) [c].length (vS [c])*(R*(row 22 1 (.slice A7 nw c7) nw (vU V)*((bk xb 52 #[th,jb,ty,.bool false,K,er,υ bg,υ st,bo,en,.slice B1 rd.length d9,.slice B [c].length d,.slice none 0 0,.string ⟨sl.toArray⟩]*row 3 1 (.slice (some ⟨go,0,none⟩) tl oc) tl (vI o))*(row 52 14 (.slice (some ⟨g,0,none⟩) tl c4) tl (toVs qs ts)*(row 22 1 (.slice WA nw wcp) nw (vU W)*E))))))
      obtain⟨gc,q1,q2,q3⟩:=h2.rowAt (l:=[c]) (f:=seV) (fun _=>rfl) (0,0) (Nat.zero_lt_one:0 < [c].length)
      exact⟨gc,q1,q2,q3 0 (by omega),q3 1 (by omega)⟩)
     have hiI:(i:Int)<(tl:Int):=by omega
     have hjI:(j:Int)<(tl:Int):=by omega
     clear HHE HLT HSH HCL;go_upto_block 8 with(go_at_call 24;refine(HH6.o).mono ?_;rintro e w6 ⟨A7,c7,V,rfl,hv,H7⟩;obtain⟨x0,x4,x11,x13,⟨gh,eh,hl,h8,h13⟩,HC1,h9⟩:=HFX.o _ _ _ _ hv.out H7.o;have HE9:=h_ h9;have HC:=h_ HC1;subst eh;clear h9 HC1)
     have hi5:i<4000:=by have:=HTS.o;omega
     have hn8:(8:Int)<(nw:Int):=by have:=HWW.o.2.1;omega
     have hn13:(13:Int)<(nw:Int):=by have:=HWW.o.2.1;omega
     have hw:=HWj.o V hv.out;obtain⟨y8,hy8⟩:∃y8,V.getD 8 0=y8:=⟨_,rfl⟩;obtain⟨y13,hy13⟩:∃y13,V.getD 13 0=y13:=⟨_,rfl⟩;rw[hy8,hy13] at hw;rw[hy8] at h8;rw[hy13] at h13;have HW1:Hid (K=2→sl=[49]→y8≠0∧cs=[(8,0)]):=h_ (fun e1 e2=>by
      unfold Wy.wayOk at hw;simp only[e1,e2,and_self,if_true] at hw;simpa using hw)
     have HW2:Hid (K=2→sl=[50]→y8=0∧y13≠0∧cs=[(13,0)]):=h_ (fun e1 e2=>by
      unfold Wy.wayOk at hw;simp only[e1,e2] at hw;simpa using hw)
     have HW3:Hid (K=3→y8=0∧y13=0):=h_ (fun e1=>by
      unfold Wy.wayOk at hw;simp only[e1] at hw;simpa using hw)
     clear hw hy8 hy13 HWj HFX HH6 H7 hv q0 q1 q2 q3 q4 q5 q6 q7 q8 q9 q10 q11 q12 q13;by_cases hK2:K=2
     ·subst hK2;by_cases hs1:sl=[49]
      ·obtain⟨e8,ecs⟩:=HW1.o rfl hs1;subst hs1 ecs;obtain⟨gc,hB,hgc,c0,c1⟩:=HC.o _ rfl;subst hB;have z8:((y8:Int)==0)=false:=by simp;omega
       clear HC HW1 HW2 HW3;go_wp2_with fail;exact⟨⟨i+1,hlt,by go_num,HE9⟩,by simp[intOf];omega⟩
      ·obtain⟨S,hS⟩:∃S:ByteArray,(⟨sl.toArray⟩:ByteArray)=S:=⟨_,rfl⟩;rw[hS] at x13;have hSl:S.toList=sl:=by rw[←hS,ByteArray.toList_eq]
       have z1:(S.toList==[49])=false:=by rw[hSl];simpa using hs1
       by_cases hs2:sl=[50]
       ·obtain⟨e8,e13,ecs⟩:=HW2.o rfl hs2;subst ecs e8;obtain⟨gc,hB,hgc,c0,c1⟩:=HC.o _ rfl;subst hB;have z13:((y13:Int)==0)=false:=by simp;omega
        have z2:(S.toList==[50])=true:=by rw[hSl,hs2];rfl
        clear HC HW1 HW2 HW3 hSl hS;go_wp2_with fail;exact⟨⟨i+1,hlt,by go_num,HE9⟩,by simp[intOf];omega⟩
       ·have z2:(S.toList==[50])=false:=by rw[hSl];simpa using hs2
        clear HC HW1 HW2 HW3 hSl hS;go_wp2_with fail;exact⟨⟨i+1,hlt,by go_num,HE9⟩,by simp[intOf];omega⟩
     ·have zk:((K:Int)==2)=false:=by simp;omega
      by_cases hK3:K=3
      ·obtain⟨e8,e13⟩:=HW3.o hK3;subst hK3 e8 e13;clear HC HW1 HW2 HW3;go_wp2_with fail;exact⟨⟨i+1,hlt,by go_num,HE9⟩,by simp[intOf];omega⟩
      ·have zk3:((K:Int)==3)=false:=by simp;omega
       clear HC HW1 HW2 HW3;go_wp2_with fail;exact⟨⟨i+1,hlt,by go_num,HE9⟩,by simp[intOf];omega⟩
    ·have d1:(decide ((i:Int)<(tl:Int)))=false:=by simp;omega
     have HZ:=h_ (HXX.o _ (row 3 1 (.slice OA tl oc) tl (vI o)*(row 52 14 (.slice A tl c4) tl (toVs qs ts)*toAll qs ts)) (HS.o.perm (by ac_rfl)))
     clear HHE HWY HXX;go_wp2;go_ret;exact⟨rfl,HZ.o⟩
section
open Go.ChangeShapes Go.WideShapes Go.ChangeAt Go.RowKit Go.Joins Go.Deep
section
variable {H : Type} {enc : TypeId × Value → H} {P : Program} {w : World} {base : Nat} {spare : Nat → Bool} {held : Bool}
theorem IL {r:Reach}{b0:Nat}{t:TypeId}{fs:Array Field}{v:Value}{d:DataW H}{p:List MemPlace}(hs:P.underlying t=some (.struct fs))(hone:oneCellFields P fs=true)(hC:P.cellsOf t=fs.size)
  (hv:Value.okWide P w r b0 t v) (h:DataW.Trod enc P w base spare held t v d p):
  ∃(l:List Value) (n:Nat),v=.agg ⟨l⟩∧l.length=fs.size∧∀(j:Nat) (f:Field),fs[j]?=some f→∃c y,l[j]?=some c∧DataW.trod enc P w base spare held n f.type [c]=some y:=by
 obtain⟨cs,rfl,hsz⟩:=okWide_struct hs hv;obtain⟨fuel,hf⟩:=h;obtain⟨xs,n,_,_,_,hlen,hx⟩:=DataW.trod_struct hs hf;rcases cs with⟨l⟩
 have hl:l.length=fs.size:=hsz.trans hC;refine⟨l,n,rfl,hl,fun j f hj=>?_⟩
 obtain⟨ho,hk⟩:=hone_of hone j f hj;have hjl:j<fs.size:=(Array.getElem?_eq_some_iff.1 hj).1;have h1:=hx j f hj;rw[ho,hk,List.getElem?_eq_getElem (by omega)] at h1
 have h2:List.take 1 (List.drop j (Value.agg ⟨l⟩).cells.toList)=[l[j]'(by omega)]:=by
  show(l.drop j).take 1=_
  rw[List.drop_eq_getElem_cons (by omega)]
  rfl
 rw[h2] at h1;exact⟨_,_,List.getElem?_eq_getElem (by omega),h1⟩
theorem Cr {t e:TypeId}{fs:Array Field}{fuel:Nat}{cs:List Value}{x:DataW H×List MemPlace}(ht:P.underlying t=some (.slice e))(he:P.underlying e=some (.struct fs))
  (hone:oneCellFields P fs=true) (hC:P.cellsOf e=fs.size) (h:DataW.trod enc P w base spare held fuel t cs=some x):
  (cs=[.slice none 0 0]∧x=(.nil,[])) ∨
  ∃(a:Addr) (len cap m:Nat) (D:Nat→DataW H) (Pl:Nat→List MemPlace),cs=[.slice (some a) len cap]∧base≤a.block∧len≤cap∧cap≤maxLen∧m=(if spare a.block then cap else len) ∧
   x=(.slice ((List.range len).map D) ((List.range (m-len)).map fun j=>D (len+j)),MemPlace.row a (m*fs.size)++(List.range m).flatMap Pl) ∧
   ∀i,i<m→∃(ys:List (DataW H×List MemPlace)) (n:Nat),D i=.agg (ys.map (·.1))∧Pl i=ys.flatMap (·.2)∧ys.length=fs.size ∧
    ∀(j:Nat) (f:Field),fs[j]?=some f→∃(v:Value) (y:DataW H×List MemPlace),w.cell? (a.add (i*fs.size+j))=some v∧ys[j]?=some y∧DataW.trod enc P w base spare held n f.type [v]=some y:=by
 rcases open_slice ht h with h0|⟨a,len,cap,m,n,D,Pl,hcs,hb,hl,hm,hmm,hx,hi⟩
 ·exact .inl h0
 ·refine .inr ⟨a,len,cap,m,D,Pl,hcs,hb,hl,hm,hmm,by rw[hC] at hx;exact hx,fun i him=>?_⟩
  obtain⟨cs',hc,ht'⟩:=hi i him;rw[hC] at hc;obtain⟨ys,n',hn',hy,hlen,hyl,hf⟩:=DataW.trod_struct he ht';obtain⟨_,hcl,hat⟩:=World.cells?_some hc;simp only[Prod.mk.injEq] at hy;refine⟨ys,n',hy.1,hy.2,hyl,fun j f hj=>?_⟩
  obtain⟨ho,hk⟩:=hone_of hone j f hj;have hjl:j<fs.size:=(Array.getElem?_eq_some_iff.1 hj).1;have hcell:=hat j hjl;have hv:cs'[j]?=some (cs'[j]'(by omega)):=List.getElem?_eq_getElem (by omega)
  have h1:=hf j f hj;rw[ho,hk] at h1;have hone':(cs'.drop j).take 1=[cs'[j]'(by omega)]:=by
   rw[List.drop_eq_getElem_cons (by omega)]
   rfl
  rw[hone'] at h1;have hys:ys[j]?=some (ys[j]'(by omega)):=List.getElem?_eq_getElem (by omega)
  refine⟨_,_,?_,hys,h1.trans hys⟩;rw[←Go.Deep.add_add,hcell,hv]
end
theorem Kq:prog.cellsOf 24=7:=by kernel_rfl
def SetupWf (a6:Int):Prop:=0≤a6∧a6≤18446744073709551615
theorem open_setup {H:Type}{enc:TypeId×Value→H}{w:World}{v:Value}{d:DataW H}{ps:List MemPlace}{b0:Nat}(hv:Value.okWide prog w .any b0 24 v)
  (h:DataW.Trod enc prog w 0 (fun _=>true) true 24 v d ps):∃(a0 a1 a2 a3 a4 a5 a6:Int),v=.agg #[a0,a1,a2,a3,a4,a5,υ a6]∧SetupWf a6:=by
 obtain⟨l,n,rfl,hl,hf⟩:=IL underlying24 (by kernel_rfl) Kq hv h
 match l,hl with
 | [c0,c1,c2,c3,c4,c5,c6],_ =>
  have key:∀(c:Value) (y:DataW H×List MemPlace),DataW.trod enc prog w 0 (fun _=>true) true n 3 [c]=some y→∃x,c=.int .i64 x:=fun c y h=>by
   obtain⟨x,e,_⟩:=DataW.trod_int underlying3 h;exact⟨x,by simpa using e⟩
  obtain⟨_,_,e0,h0⟩:=hf 0 _ rfl;obtain⟨_,_,e1,h1⟩:=hf 1 _ rfl;obtain⟨_,_,e2,h2⟩:=hf 2 _ rfl;obtain⟨_,_,e3,h3⟩:=hf 3 _ rfl;obtain⟨_,_,e4,h4⟩:=hf 4 _ rfl;obtain⟨_,_,e5,h5⟩:=hf 5 _ rfl;obtain⟨_,_,e6,h6⟩:=hf 6 _ rfl;cases e0;cases e1;cases e2;cases e3;cases e4;cases e5;cases e6;obtain⟨x0,rfl⟩:=key _ _ h0;obtain⟨x1,rfl⟩:=key _ _ h1;obtain⟨x2,rfl⟩:=key _ _ h2;obtain⟨x3,rfl⟩:=key _ _ h3;obtain⟨x4,rfl⟩:=key _ _ h4;obtain⟨x5,rfl⟩:=key _ _ h5;obtain⟨x6,e6,_,w6⟩:=DataW.trod_int underlying22 h6;simp at e6;subst e6;have b6:=bounds_u64 w6;exact⟨x0,x1,x2,x3,x4,x5,x6,rfl,by omega,by omega⟩
theorem Lj {w:World}{a:Addr}{v:Value}(h:w.cell? a=some v):a.block<w.heap.size:=by
 rcases Nat.lt_or_ge a.block w.heap.size with hlt|hge
 ·exact hlt
 ·exfalso;simp[World.cell?,Array.getElem?_eq_none hge] at h
def BytesArg (w:World)(A:Option Addr)(len:Nat):Prop :=
 ∃ks:List Nat,ks.length=len∧len≤maxLen∧(∀z∈ks,z<256)∧∀i,i<len→∃b o,A=some ⟨b,o,none⟩∧b<w.heap.size∧w.cell? (κ b (o+i))=some (.int .u8 ((ks.getD i 0:Nat):Int))
theorem open_bytes {H:Type}{enc:TypeId×Value→H}{w:World}{v:Value}{d:DataW H}{ps:List MemPlace}{b0:Nat}(hv:Value.okWide prog w .any b0 25 v)
  (h:DataW.Trod enc prog w 0 (fun _=>true) true 25 v d ps):∃A len cap,v=.slice A len cap∧BytesArg w A len:=by
 obtain⟨A,len,cap,rfl⟩:=okWide_slice underlying25 hv;obtain⟨fuel,hf⟩:=h;refine⟨A,len,cap,rfl,?_⟩;rcases open_ints underlying25 underlying5 (by kernel_rfl) hf with⟨hcs,_⟩|⟨a,l,c,zs,hcs,_,hl,hm,hz,_,hcell,hwz⟩
 ·simp[Value.cells] at hcs;obtain⟨rfl,rfl,rfl⟩:=hcs;exact⟨[],rfl,by simp,fun z hz=>by simp at hz,fun i h=>by omega⟩
 ·simp[Value.cells] at hcs;obtain⟨rfl,rfl,rfl⟩:=hcs;have hzl:zs.length=cap:=by rw[hz];simp
  obtain⟨b,o,s⟩:=a;refine⟨(zs.take len).map Int.toNat,by simp;omega,by omega,fun z hz=>?_,fun i hlen=>?_⟩
  ·obtain⟨y,hy,rfl⟩:=List.mem_map.1 hz
   have:=bounds_u8 (hwz y (List.mem_of_mem_take hy))
   omega
  ·have hs:s=none:=by
    have c0:=hcell 0 (by omega)
    simpa [Addr.add] using World.cell?_spot c0
   subst hs;refine⟨b,o,rfl,?_,?_⟩
   ·have c0:=hcell 0 (by omega)
    simpa [Addr.add] using Lj c0
   ·have ci:=hcell i (by omega)
    have hy:zs[i]?=some (zs[i]'(by omega)):=List.getElem?_eq_getElem (by omega)
    have hb:=bounds_u8 (hwz _ (List.getElem_mem (by omega:i<zs.length)))
    have hiv:zs.getD i 0=zs[i]'(by omega):=by
     rw[gD,hy];rfl
    have hkv:((zs.take len).map Int.toNat).getD i 0=(zs[i]'(by omega)).toNat:=by
     rw[gD,List.getElem?_map,List.getElem?_take,if_pos hlen,hy];rfl
    rw[hiv] at ci;rw[hkv,show(((zs[i]'(by omega)).toNat:Nat):Int)=zs[i]'(by omega) by omega]
    by_cases hz0:i=0
    ·subst hz0;simpa [Addr.add] using ci
    ·simpa [Addr.add,hz0] using ci
def PickAt (w:World)(b o:Nat)(T:Int)(D:Nat)(N:Int):Prop:=w.cell? (κ b o)=some (.int .i64 T)∧w.cell? (κ b (o+1))=some (.int .u8 D)∧w.cell? (κ b (o+2))=some (.int .i64 N)
def PicksArg (w:World)(A:Option Addr)(len:Nat):Prop:=len≤maxLen∧∀i,i<len→∃b o T D N,A=some ⟨b,o,none⟩∧b<w.heap.size∧D<256∧PickAt w b (o+i*3) T D N
theorem LE (b o j:Nat):(⟨b,o,none⟩:Addr).add j=⟨b,o+j,none⟩:=by
 unfold Addr.add;split
 ·rename_i h;subst h;rfl
 ·rfl
theorem Fc (a:Addr)(n:Nat):(a.add n).block=a.block:=by unfold Addr.add;split<;>rfl
theorem open_picks {H:Type}{enc:TypeId×Value→H}{w:World}{v:Value}{d:DataW H}{ps:List MemPlace}{b0:Nat}(hv:Value.okWide prog w .any b0 26 v)
  (h:DataW.Trod enc prog w 0 (fun _=>true) true 26 v d ps):∃A len cap,v=.slice A len cap∧PicksArg w A len:=by
 obtain⟨A,len,cap,rfl⟩:=okWide_slice underlying26 hv;obtain⟨fuel,hf⟩:=h;refine⟨A,len,cap,rfl,?_⟩;rcases Cr underlying26 underlying43 (by kernel_rfl) (by kernel_rfl) hf with⟨hcs,_⟩|⟨a,l,c,m,D,Pl,hcs,_,hl,hm,hmm,_,hel⟩
 ·simp[Value.cells] at hcs;obtain⟨rfl,rfl,rfl⟩:=hcs;exact⟨by simp,fun i h=>absurd h (by omega)⟩
 ·simp[Value.cells] at hcs;obtain⟨rfl,rfl,rfl⟩:=hcs;refine⟨by omega,fun i hi=>?_⟩
  have hml:len≤m:=by rw[hmm];simp;exact hl
  obtain⟨ys,n,_,_,_,hf⟩:=hel i (by omega)
  obtain⟨v0,y0,c0,_,t0⟩:=hf 0 _ rfl;obtain⟨v1,y1,c1,_,t1⟩:=hf 1 _ rfl;obtain⟨v2,y2,c2,_,t2⟩:=hf 2 _ rfl;obtain⟨x0,e0,_,b0⟩:=DataW.trod_int underlying3 t0;obtain⟨x1,e1,_,b1⟩:=DataW.trod_int underlying5 t1;obtain⟨x2,e2,_,b2⟩:=DataW.trod_int underlying3 t2;simp at e0 e1 e2;subst e0 e1 e2;have g1:=bounds_u8 b1;obtain⟨b,o,s⟩:=a;have hs:s=none:=by
   obtain⟨ys0,n0,_,_,_,hf0⟩:=hel 0 (by omega)
   obtain⟨v00,y00,c00,_,_⟩:=hf0 0 _ rfl;simpa [Addr.add] using World.cell?_spot c00
  subst hs;have hlt:=Lj c1;rw[Fc] at hlt;rw[LE] at c0 c1 c2;refine⟨b,o,x0,x1.toNat,x2,rfl,hlt,by omega,?_,?_,?_⟩
  ·simpa using c0
  ·rw[show((x1.toNat:Nat):Int)=x1 by omega]
   simpa [Nat.add_assoc] using c1
  ·simpa [Nat.add_assoc] using c2
end
def rdA (W:World)(a:Addr):Int:=intOf ((W.cell? a).getD undef)
theorem FN {a b c d:Nat}{A:Option Addr}(h1:A=some ⟨a,b,none⟩)(h2:A=some ⟨c,d,none⟩):a=c∧b=d:=by
 rw[h1] at h2;cases h2;exact⟨rfl,rfl⟩
theorem Ql {W:World}{AK:Option Addr}{m:Nat}(hk:BytesArg W AK m):∃ks gk ok,ks.length=m∧(∀x∈ks,x<256)∧∀w',Below W.heap.size W w'→KsIn AK gk ok m ks w':=by
 obtain⟨ks,hks,hm,hk8,hkc⟩:=hk;rcases Nat.eq_zero_or_pos m with h0|h0
 ·exact⟨ks,0,0,hks,hk8,fun w' h i hi=>absurd hi (by omega)⟩
 ·obtain⟨gk,ok,hA,hlt,_⟩:=hkc 0 h0;refine⟨ks,gk,ok,hks,hk8,fun w' hb i hi=>?_⟩
  obtain⟨gk2,ok2,hA2,_,hc⟩:=hkc i hi;obtain⟨rfl,rfl⟩:=FN hA hA2;exact⟨hA,Nat.lt_of_lt_of_le hlt hb.size,(hb.cell hlt).trans hc⟩
theorem PF {W:World}{AP:Option Addr}{n:Nat}(hp:PicksArg W AP n):∃gp op,∃(fT:Nat→Int) (fD:Nat→Nat) (fZ:Nat→Int),(∀i,i<n→fD i<256)∧∀w',Below W.heap.size W w'→PsIn AP gp op n fT fD fZ w':=by
 obtain⟨hn,hpc⟩:=hp;rcases Nat.eq_zero_or_pos n with h0|h0
 ·exact⟨0,0,fun _=>0,fun _=>0,fun _=>0,fun i hi=>absurd hi (by omega),fun w' h i hi=>absurd hi (by omega)⟩
 ·obtain⟨gp,op,_,_,_,hA,hlt,_⟩:=hpc 0 h0;refine⟨gp,op,fun i=>rdA W ⟨gp,op+i*3,none⟩,fun i=>(rdA W ⟨gp,op+i*3+1,none⟩).toNat,fun i=>rdA W ⟨gp,op+i*3+2,none⟩,fun i hi=>?_,fun w' hb i hi=>?_⟩
  ·obtain⟨gp2,op2,T,D,Z,hA2,_,hD,c0,c1,c2⟩:=hpc i hi;obtain⟨rfl,rfl⟩:=FN hA hA2;show(rdA W ⟨gp,op+i*3+1,none⟩).toNat<256
   rw[rdA,c1];show((D:Int)).toNat<256
   omega
  ·obtain⟨gp2,op2,T,D,Z,hA2,_,hD,c0,c1,c2⟩:=hpc i hi;obtain⟨rfl,rfl⟩:=FN hA hA2;refine⟨hA,Nat.lt_of_lt_of_le hlt hb.size,?_,?_,?_⟩
   ·rw[hb.cell hlt];show _=some (Value.int .i64 (rdA W _));rw[rdA,c0];rfl
   ·rw[hb.cell hlt];show _=some (Value.int .u8 ((rdA W _).toNat:Int));rw[rdA,c1];rfl
   ·rw[hb.cell hlt];show _=some (Value.int .i64 (rdA W _));rw[rdA,c2];rfl
theorem top_ways (W:World)(a0 a1 a2 a3 a4 a5 a6:Int)(h6:SetupWf a6)(AK:Option Addr)(m ck:Nat)(hk:BytesArg W AK m)(AP:Option Addr)(n cp:Nat)(hp:PicksArg W AP n)(hw:Pow10 W):
  Calls prog 5 #[.agg #[a0,a1,a2,a3,a4,a5,υ a6],.slice AK m ck,.slice AP n cp] W fun e w'=>e=.returned (.bool true)∧Below W.heap.size W w':=by
 obtain⟨x6,rfl⟩:=Int.eq_ofNat_of_zero_le h6.1;have ho:W.heap[0]?=some (W.heap[0]'hw.lt):=Array.getElem?_eq_getElem hw.lt
 letI:Inhabited PowO:=⟨⟨W.heap[0]'hw.lt,fun w' hw'=>hw.block (hw'.trans ho.symm)⟩⟩
 have e:powH*restOf W=wholeOf W:=Mq ho;have hold:∀w' X,Sat W w' (X*(powH*restOf W))→Below W.heap.size W w':=fun w' X h=>by
  have h1:=h.right;rw[e] at h1;exact h1.old
 obtain⟨ks,gk,ok,hks,hk8,hK⟩:=Ql hk;obtain⟨gp,op,fT,fD,fZ,hP8,hP⟩:=PF hp;refine(OO W W (restOf W) (e▸Sat.whole W) a0 a1 a2 a3 a4 a5 x6 ks AK gk ok m ck hks hk8 (h_ fun w' X h=>hK w' (hold w' X h)) AP gp op n cp fT fD fZ hP8 (h_ fun w' X h=>hP w' (hold w' X h))).mono ?_
 rintro e2 w' ⟨rfl,h⟩;rw[e] at h;exact⟨rfl,h.old⟩
theorem Mr:(prog.globals[0]?).map (·.type)=some 399:=by kernel_rfl
theorem Qj:prog.cellsOf 399=20:=by kernel_rfl
theorem Qi:prog.cellsOf 22=1:=by kernel_rfl
theorem KD:(Rows.laid_internal_strconv_uint64pow10:DataW Unit)=Lib.tabData .u64 Lib.pow10Tab:=by kernel_rfl
theorem PE {W:World}{a b:String×DataW Unit}{rest:List (String×DataW Unit)}(h:laidMet prog (a::b::("internal/strconv.uint64pow10",Rows.laid_internal_strconv_uint64pow10)::rest) W):Pow10 W:=by
 have h2:=laidMet.tail (laidMet.tail h);rw[KD] at h2;exact Lib.tabIs_of_head Br Mr underlying399 underlying22 Qi Qj h2
theorem pow10_topWays {W:World}(h:laidMetH prog Rows.topWaysRow.laid W):Pow10 W:=by
 rw[MakeChecks.laidMetH_plain _ _ _ (by kernel_rfl)] at h
 exact PE h
end Go.Proofs.YtfodmgaliclhfaaGreatDoor
