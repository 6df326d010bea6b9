/- Lemmas. -/
import Derived.Test.YtfodmgaliclhfaaGreatDoorGIpDo
import Derived.Test.YtfodmgaliclhfaaGreatDoorGAtLater
import Derived.Test.YtfodmgaliclhfaaGreatDoorGWrTake
import Derived.Test.YtfodmgaliclhfaaGreatDoorGClone
namespace Go.Proofs.YtfodmgaliclhfaaGreatDoor
set_option linter.unusedVariables false
set_option linter.unusedSimpArgs false
set_option maxRecDepth 100000
set_option maxHeartbeats 8000000
open Go.RowKit Go.Proofs.Tryz Iq Jq
theorem Uf (ω w:World)(F:HP)(b vb:Nat)(x:PIt)(v:PVw)(h:Sat ω w (itH b vb x v*F))(dep:Nat→Nat)(hx:ItIn dep x v)(i:PIns)(hi:InsFine dep x.code x.at_ i):
  Calls prog 183 #[.pointer b,.agg (insV i).toArray] w (Rets ω F (.int .i64 ((x.exec v i).1:Int)) (itH b vb (x.exec v i).2.1 (x.exec v i).2.2)):=by
 have hop:=hi.op;have hv:=hx.vf;have hlen:=hx.len;have h6:=hv.logs.few;have hl:=hx.live;have hd:=hx.dep;have ho6:x.opens.length≤100:=by omega
 have hout:=hx.out;obtain⟨a1,a2⟩:=hi.a;obtain⟨b1,b2⟩:=hi.b;obtain⟨c1,c2⟩:=hi.c;obtain⟨n1,n2⟩:=hi.n;obtain⟨op,a,b',c,n⟩:=i;simp only at *
 obtain⟨ka,rfl⟩:=Int.eq_ofNat_of_zero_le a1;obtain⟨kb,rfl⟩:=Int.eq_ofNat_of_zero_le b1;obtain⟨kc,rfl⟩:=Int.eq_ofNat_of_zero_le c1;obtain⟨kn,rfl⟩:=Int.eq_ofNat_of_zero_le n1;have ha:ka<8:=by omega
 have hb:kb<8:=by omega
 have hc:kc≤40:=by omega
 have ra:x.reg (ka:Int)=x.regs.getD ka 0:=by unfold PIt.reg;rw[Int.toNat_natCast,Nat.mod_eq_of_lt ha]
 have rb:x.reg (kb:Int)=x.regs.getD kb 0:=by unfold PIt.reg;rw[Int.toNat_natCast,Nat.mod_eq_of_lt hb]
 have sa:∀r,x.setReg (ka:Int) r={x with regs:=x.regs.set ka r}:=fun r=>by unfold PIt.setReg;rw[Int.toNat_natCast,Nat.mod_eq_of_lt ha]
 have hm:∀m:Nat,(matchP x.code)[x.at_]?=some (m:Int)→x.match_ x.at_=m:=fun m e=>by unfold PIt.match_;rw[gD,e];rfl
 have hne:0<x.opens.length→x.opens≠[]:=fun h e=>by rw[e] at h;simp at h
 have hall:∀p∈x.opens,p.regs.length=8:=fun p hp=>(hx.opens.all p hp).1
 cases hop with
 |on h1 d =>
  rcases h1 with rfl|rfl|rfl|rfl|rfl
  ·have e:x.exec v ⟨1,(ka:Nat),(kb:Nat),(kc:Nat),(kn:Nat)⟩=(0,{x with regs:=x.regs.set ka kn},v):=by
    rw[←sa];rfl
   rw[e];exact UF ω w F b vb x v h hx.regs ka kb kc kn ha hb hc
  ·have rc:x.reg (kc:Int)=x.regs.getD (kc%8) 0:=by unfold PIt.reg;rw[Int.toNat_natCast]
   have e:x.exec v ⟨3,(ka:Nat),(kb:Nat),(kc:Nat),(kn:Nat)⟩=(0,{x with regs:=x.regs.set ka ((x.regs.getD kb 0+x.regs.getD (kc%8) 0)%18446744073709551616)},v):=by
    rw[←sa,←rb,←rc];rfl
   rw[e];exact UE ω w F b vb x v h hx.regs ka kb kc kn ha hb hc
  ·have e:x.exec v ⟨8,(ka:Nat),(kb:Nat),(kc:Nat),(kn:Nat)⟩=loadP x v ka (x.regs.getD kb 0) (kc:Int):=by
    unfold loadP;rw[←rb];simp only[←sa];rfl
   rw[e];exact UD ω w F b vb x v h hx.regs hv.ok ka kb kc kn ha hb hc
  ·have e:x.exec v ⟨9,(ka:Nat),(kb:Nat),(kc:Nat),(kn:Nat)⟩=storeP x v (x.regs.getD ka 0) (x.regs.getD kb 0) (kc:Int):=by
    unfold storeP;rw[←ra,←rb];rfl
   rw[e];exact UC ω w F b vb x v h hx.regs hv.ok ka kb kc kn ha hb hc
  ·have e:x.exec v ⟨21,(ka:Nat),(kb:Nat),(kc:Nat),(kn:Nat)⟩=((if 16≤x.out.length then 5 else 0),{x with out:=if x.out.length<16 then x.out++[.num (x.regs.getD ka 0)] else x.out},v):=by
    rw[←ra];show(if 16≤x.out.length then(5,x,v) else(0,{x with out:=x.out++[.num (x.reg (ka:Int))]},v))=_
    by_cases h9:16≤x.out.length
    ·rw[if_pos h9,if_pos h9,if_neg (by omega)]
    ·rw[if_neg h9,if_neg h9,if_pos (by omega)]
   rw[e];exact SQ ω w F b vb x v h hx.regs hx.out ka kb kc kn ha hb hc
 |jump h1 d l =>
  simp only at h1;subst h1;exact SW ω w F b vb x v h hx.regs ka kb kc kn ha hb hc
 |zero h1 d0 d l =>
  simp only at h1;subst h1;have e:x.exec v ⟨13,(ka:Nat),(kb:Nat),(kc:Nat),(kn:Nat)⟩=(0,if x.regs.getD ka 0=0 then {x with next:=kc} else x,v):=by
   rw[←ra];rfl
  rw[e];exact SV ω w F b vb x v h hx.regs ka kb kc kn ha hb hc
 |either h1 d0 m e d l =>
  simp only at h1;subst h1;exact SU ω w F b vb x v h hx.regs hv.ok ho6 (by omega) ka kb kc kn ha hb hc
 |or h1 m e d l =>
  simp only at h1;subst h1;have e2:x.exec v ⟨18,(ka:Nat),(kb:Nat),(kc:Nat),(kn:Nat)⟩=(v.keep.1,({x.leave.2 with next:=m+1}:PIt),v.keep.2):=by
   rw[←hm m e];rfl
  rw[e2];exact ST ω w F b vb x v h hx.regs hv.ok ho6 (hne (by omega)) hall m e (by omega) ka kb kc kn ha hb hc
 |done h1 d =>
  simp only at h1;subst h1;exact SS ω w F b vb x v h hx.regs hv.ok ho6 (hne (by omega)) hall ka kb kc kn ha hb hc
 |retry h1 =>
  simp only at h1;subst h1;have e2:x.exec v ⟨20,(ka:Nat),(kb:Nat),(kc:Nat),(kn:Nat)⟩=x.retry v:=rfl;rw[e2];have hat:=hx.at_;exact SR ω w F b vb x v dep (x.retry v) ⟨h,hx.toItVal,hv,hx.ways,hl,hlen,by omega,rfl⟩ ka kb kc kn ha hb hc
theorem SO (x:PIt)(D:ItD)(h:x.regs.length=8)(f e:Nat):((itC x D).setIfInBounds 5 (.int .i64 f)).setIfInBounds 4 (.int .i64 e)=itC {x with fin:=f,err:=e} D:=by
 obtain⟨code,fin,err,regs,out,at_,next,left,opens⟩:=x;simp only at h;obtain⟨r0,r1,r2,r3,r4,r5,r6,r7,rfl⟩:=Bq h;rfl
theorem Tv (x:PIt)(D:ItD)(h:x.regs.length=8)(f l:Nat):((itC x D).setIfInBounds 15 (.int .i64 f)).setIfInBounds 17 (.int .i64 l)=itC {x with at_:=f,left:=l} D:=by
 obtain⟨code,fin,err,regs,out,at_,next,left,opens⟩:=x;simp only at h;obtain⟨r0,r1,r2,r3,r4,r5,r6,r7,rfl⟩:=Bq h;rfl
theorem Ia {ω w:World}{F:HP}{b vb:Nat}{x y:PIt}{v:PVw}(h:Sat ω w (itH b vb x v*F))(i j:Nat)(u u':Value)(e:∀D,((itC x D).setIfInBounds i u).setIfInBounds j u'=itC y D)(hc:y.code=x.code)(ho:y.opens=x.opens)(hu:y.out=x.out):Sat ω ((w.setCell (κ b i) u).setCell (κ b j) u') (itH b vb y v*F):=by
 obtain⟨D,hD,hx⟩:=AL h;unfold itX at hx;have h2:=(hx.assoc.set i u).put j u' (e D);refine Ae (D:=D) hD ?_;unfold itX;rw[hc,ho,hu];exact h2.assoc'
theorem Lm (ω w:World)(F:HP)(b vb:Nat)(x:PIt)(v:PVw)(h:Sat ω w (itH b vb x v*F))(hr:x.regs.length=8)(e:Nat):
  Calls prog 182 #[.pointer b,e] w (Rets ω F (.tuple #[]) (itH b vb {x with fin:=4,err:=e} v)):=by
 obtain⟨D,hD,hx⟩:=AL h;have hb:=hx.assoc.blk;have lt:=hb.lt;have fz:=hb.frozen;have c5:w.cell? (κ b 5)=some (.int .i64 x.fin):=by rw[hb.cell,AR x D 5 (by omega)];rfl
 have c4:w.cell? (κ b 4)=some (.int .i64 x.err):=by rw[hb.cell,AR x D 4 (by omega)];rfl
 have HS:Hid (Sat ω ((w.setCell (κ b 5) (.int .i64 ((4:Nat):Int))).setCell (κ b 4) e) (itH b vb {x with fin:=4,err:=e} v*F)):=h_ (Ia h 5 4 _ _ (fun D=>SO x D hr 4 e) rfl rfl rfl)
 generalize (x.fin:Int)=fi at *
 generalize (x.err:Int)=er at *
 clear h hx hb;go_enter func182,ntmps182;go_wp2;exact bodyPost_end (results_none rfl _ _ _) rfl ⟨rfl,HS.o⟩
structure IrC (w:World) (b:Nat) (x:PIt):Prop where
 p:∃A c,w.cell? b=some (.slice A x.code.length c)
 bad:w.cell? (κ b 3)=some (.int .i64 0)
 fin:w.cell? (κ b 5)=some (.int .i64 x.fin)
 at_:w.cell? (κ b 15)=some (.int .i64 x.at_)
 next:w.cell? (κ b 16)=some (.int .i64 x.next)
 left:w.cell? (κ b 17)=some (.int .i64 x.left)
 fz:∀i,w.frozen? (κ b i)=false
 lt:b<w.heap.size
theorem KZ {ω w:World}{F:HP}{b vb:Nat}{x:PIt}{v:PVw}(h:Sat ω w (itH b vb x v*F))(hr:x.regs.length=8):IrC w b x:=by
 obtain⟨D,hD,hx⟩:=AL h;have hb:=hx.assoc.blk;refine⟨⟨D.pA,D.pc,by rw[hb.cell,AR x D 0 (by omega)];rfl⟩,by rw[hb.cell,AR x D 3 (by omega)];rfl,by rw[hb.cell,AR x D 5 (by omega)];rfl,?_,?_,?_,hb.frozen,hb.lt⟩
 ·rw[hb.cell,show(15:Nat)=14+1 from rfl,AN x D 1 hr (by omega)];rfl
 ·rw[hb.cell,show(16:Nat)=14+2 from rfl,AN x D 2 hr (by omega)];rfl
 ·rw[hb.cell,show(17:Nat)=14+3 from rfl,AN x D 3 hr (by omega)];rfl
theorem Cw (i:PIns):(insV i).length=5:=rfl
theorem Ty {ω w:World}{F:HP}{b vb:Nat}{x:PIt}{v:PVw}(h:Sat ω w (itH b vb x v*F))(hk:x.at_<x.code.length):∃g c,w.cell? b=some (.slice (some ⟨g,0,none⟩) x.code.length c)∧g<w.heap.size∧∀j,j<5→w.cell? (κ g (x.at_*5+j))=(insV (x.code.getD x.at_ PIns.none))[j]?:=by
 obtain⟨D,hD,hx⟩:=AL h;unfold itX at hx;have h1:=hx.assoc;obtain⟨g,e,lg,hc⟩:=h1.right.assoc.rowAt (l:=x.code) (f:=insV) Cw PIns.none (i:=x.at_) hk;refine⟨g,D.pc,?_,lg,hc⟩;rw[←e]
 have:=h1.blk.cell 0
 rw[AR x D 0 (by omega)] at this
 exact this
theorem Tt {ω w:World}{F:HP}{b g:Nat}{x:PIt}{D:ItD}(h:Sat ω w (itX b x D*F))(e:D.pA=some ⟨g,0,none⟩):g≠b:=by
 have h1:Sat ω w (row 87 5 (.slice D.pA x.code.length D.pc) x.code.length (x.code.flatMap insV)*(bk b 245 (itC x D)*(row 3 1 (.slice D.mA (matchP x.code).length D.mc) (matchP x.code).length ((matchP x.code).map (Value.int .i64))*(row 346 11 (.slice D.oA x.opens.length D.oc) x.opens.length (x.opens.flatMap ptV)*(slH D.sb x.out*F))))):=h.perm (by unfold itX;ac_rfl)
 rcases h1.cases with⟨h5,_⟩|⟨g2,_,_,h5,_,_,_,_,_,h4⟩
 ·rw[e] at h5;cases h5
 ·rw[e] at h5;injection h5 with h5
  injection h5 with h5
  injection h5 with h5
  subst h5;exact h4.ne
def irLeft (b:Nat)(w:World):Nat:=match w.cell? (κ b 5),w.cell? (κ b 17) with
 |some (.int _ 0),some (.int _ n)=>n.toNat+1
 |_,_=>0
theorem BU {ω w:World}{F:HP}{b vb:Nat}{x:PIt}{v:PVw}(h:Sat ω w (itH b vb x v*F))(hr:x.regs.length=8):irLeft b w=if x.fin=0 then x.left+1 else 0:=by
 have hC:=KZ h hr;unfold irLeft;rw[hC.fin,hC.left];by_cases h0:x.fin=0
 ·rw[if_pos h0,h0];simp
 ·rw[if_neg h0];obtain⟨n,hn⟩:∃n,x.fin=n+1:=⟨x.fin-1,by omega⟩
  rw[hn];rfl
structure IrInv (ω:World) (F:HP) (b vb:Nat) (dep:Nat→Nat) (R:Nat×PIt×PVw) (w:World) (x:PIt) (v:PVw):Prop where
 sat:Sat ω w (itH b vb x v*F)
 it:ItFine dep x v
 fin:Fin4 x.fin
 run:PIt.runF (x.left+1) x v=R
theorem Pa {dep:Nat→Nat}{x:PIt}{v:PVw}(h:ItFine dep x v)(h0:x.fin=0)(h1:x.at_≠x.code.length)(h2:x.left≠0):
  ItIn dep {x with next:=x.at_+1} v∧InsFine dep x.code x.at_ (x.code.getD x.at_ PIns.none) ∧
  ∀e y v',({x with next:=x.at_+1}:PIt).exec v (x.code.getD x.at_ PIns.none)=(e,y,v') →
   y.regs.length=8∧(y.fin=0∨e=0∧y.fin=3)∧y.left=x.left ∧
   (e=0→ItFine dep {y with at_:=y.next,left:=y.left-1} v'∧PIt.runF (x.left+1) x v=PIt.runF (x.left-1+1) {y with at_:=y.next,left:=y.left-1} v') ∧
   (e=11→PIt.runF (x.left+1) x v=(1,y,v')) ∧
   (e≠0→e≠11→ItFine dep {y with fin:=4,err:=e} v'∧PIt.runF (x.left+1) x v=(4,{y with fin:=4,err:=e},v')):=by
 have hin:=h.into h0 h1;have hi:=h.code.ins x.at_ hin.at_;refine⟨hin,hi,fun e y v' he=>?_⟩
 have hx:=Ls hin hi;rw[he] at hx;simp only at hx;have hleft:y.left=x.left:=hx.left;have hll:=h.left;have hunf:PIt.runF (x.left+1) x v=if e=0 then PIt.runF x.left {y with at_:=y.next,left:=y.left-1} v' else if e=11 then(1,y,v') else(4,{y with fin:=4,err:=e},v'):=by
  conv=>lhs;unfold PIt.runF
  rw[if_neg (by simp[h0]),if_neg h1,if_neg h2,he]
 refine⟨hx.regs,hx.fin,hleft,fun e0=>⟨hx.go h.code hll e0,?_⟩,fun e11=>?_,fun n0 n11=>⟨hx.ill h.code hll h.place,?_⟩⟩
 ·rw[hunf,if_pos e0]
  congr 1
  omega
 ·rw[hunf,if_neg (by omega),if_pos e11]
 ·rw[hunf,if_neg n0,if_neg n11]
theorem Tz (ω w:World)(F:HP)(b vb:Nat)(x:PIt)(v:PVw)(h:Sat ω w (itH b vb x v*F))(dep:Nat→Nat)(hf:ItFine dep x v)(hfin:Fin4 x.fin):
  Calls prog 155 #[.pointer b] w (Rets ω F (.int .i64 ((x.run v).1:Int)) (itH b vb (x.run v).2.1 (x.run v).2.2)):=by
 obtain⟨R,hR⟩:∃R,x.run v=R:=⟨_,rfl⟩;rw[hR];have H0:Hid (IrInv ω F b vb dep R w x v):=h_ ⟨h,hf,hfin,hR⟩;clear h hf hfin hR;go_enter func155,ntmps155;go_wp2;go_loopw [2] (fun s wr=>s=.int .i64 0∧∃x' v',Hid (IrInv ω F b vb dep R wr x' v')) (fun _ wr=>irLeft b wr)
 case atStart=>exact⟨rfl,x,v,H0⟩
 case round =>
  obtain⟨rfl,x',v',HI⟩:=hrel;have hI:=HI.o;have hrg:=hI.it.regs;have hrun:=hI.run;have hC:=KZ hI.sat hrg;obtain⟨⟨A,cA,q0⟩,q3,q5,q15,q16,q17,qf,ql⟩:=hC;have hME:irLeft b wr=if x'.fin=0 then x'.left+1 else 0:=BU hI.sat hrg
  by_cases h0:x'.fin=0
  ·rw[if_pos h0] at hME;by_cases h1:x'.at_=x'.code.length
   ·have hR:R=(2,{x' with fin:=2},v'):=by
     rw[←hrun];unfold PIt.runF;rw[if_neg (by simp[h0]),if_pos h1]
    have HS:Hid (∀q,Sat ω ((wr.drewN q).setCell (κ b 5) (ι 2)) (itH b vb {x' with fin:=2} v'*F)):=h_ (fun q=>Az (hI.sat.drewN q) 5 _ (fun D=>Dj x' D hrg 2) rfl rfl rfl)
    have HN:Hid (∀w2,Sat ω w2 (itH b vb {x' with fin:=2} v'*F)→IrInv ω F b vb dep R w2 {x' with fin:=2} v'∧irLeft b w2<irLeft b wr):=h_ (fun w2 h2=>by
     refine⟨⟨h2,hI.it.end_ (e:=x'.err) (by omega),.inr (.inl rfl),?_⟩,?_⟩
     ·rw[hR];unfold PIt.runF;rw[if_pos (by simp)]
     ·rw[hME,BU h2 hrg,if_neg (by simp)];omega)
    rw[h0] at q5;have hle:(x'.code.length:Int)≤1000:=by have:=hI.it.code.len;omega
    rw[h1] at q15;generalize x'.code.length=NN at *
    clear hI hrun hME hR h1 h0 HI;go_wp2;go_quiet (fail);go_wp2;go_roundw
    case rel =>
     refine⟨rfl,_,_,h_ (HN.o _ (HS.o _)).1⟩
    case measure =>
     exact(HN.o _ (HS.o _)).2
   ·have dL:((x'.at_:Int)==(x'.code.length:Int))=false:=by simp;omega
    have hle:(x'.code.length:Int)≤1000:=by have:=hI.it.code.len;omega
    have hle2:(x'.at_:Int)≤1000:=by have:=hI.it.code.len;have:=hI.it.place;omega
    by_cases h2:x'.left=0
    ·have hR:R=(4,{x' with fin:=4,err:=6},v'):=by
      rw[←hrun];unfold PIt.runF;rw[if_neg (by simp[h0]),if_neg h1,if_pos h2]
     have HFA:Hid (∀q,Calls prog 182 #[.pointer b,ι 6] (wr.drewN q) (Rets ω F (.tuple #[]) (itH b vb {x' with fin:=4,err:=6} v'))):=h_ (fun q=>Lm ω _ F b vb x' v' (hI.sat.drewN q) hrg 6)
     have HN:Hid (∀w2,Sat ω w2 (itH b vb {x' with fin:=4,err:=6} v'*F)→IrInv ω F b vb dep R w2 {x' with fin:=4,err:=6} v'∧irLeft b w2<irLeft b wr):=h_ (fun w2 h2=>by
      refine⟨⟨h2,hI.it.end_ (by omega),.inr (.inr (.inr rfl)),?_⟩,?_⟩
      ·rw[hR];unfold PIt.runF;rw[if_pos (by simp)]
      ·rw[hME,BU h2 hrg,if_neg (by simp)];omega)
     rw[h0] at q5;rw[h2] at q17;generalize x'.code.length=NN at *
     generalize x'.at_=PP at *
     clear hI hrun hME hR h1 h0 h2 HI;go_wp2;go_quiet (fail);go_wp2_with (go_at_call 182;refine(HFA.o _).mono ?_;rintro e w1 ⟨rfl,hs⟩;have HZ:=h_ (HN.o _ hs);clear hs);go_roundw
     case rel=>exact⟨rfl,_,_,h_ HZ.o.1⟩
     case measure=>exact HZ.o.2
    ·obtain⟨hin,hi,hround⟩:=Pa hI.it h0 h1 h2;have hk:x'.at_<x'.code.length:=hin.at_;obtain⟨g,cg,e0,lg,hcell⟩:=Ty hI.sat hk;rw[q0] at e0;obtain rfl:A=some ⟨g,0,none⟩:=by injection (Option.some.inj e0)
     clear e0;have HS:Hid (∀q,Sat ω ((wr.drewN q).setCell (κ b 16) (.int .i64 ((x'.at_+1:Nat):Int))) (itH b vb {x' with next:=x'.at_+1} v'*F)):=h_ (fun q=>Az (hI.sat.drewN q) 16 _ (fun D=>BT x' D hrg (x'.at_+1)) rfl rfl rfl)
     obtain⟨ins,hins⟩:∃ins,x'.code.getD x'.at_ PIns.none=ins:=⟨_,rfl⟩;rw[hins] at hi hcell hround;obtain⟨⟨ee,y,v2⟩,hex⟩:∃r,({x' with next:=x'.at_+1}:PIt).exec v' ins=r:=⟨_,rfl⟩
     obtain⟨yr,yf,yl,k0,k11,kn⟩:=hround ee y v2 hex;have HD:Hid (∀q,Calls prog 183 #[.pointer b,.agg (insV ins).toArray] ((wr.drewN q).setCell (κ b 16) (.int .i64 ((x'.at_+1:Nat):Int))).drew (Rets ω F (.int .i64 ee) (itH b vb y v2))):=h_ (fun q=>by
      have h9:=Uf ω _ F b vb {x' with next:=x'.at_+1} v' (HS.o q).drew dep hin ins hi
      rw[hex] at h9;exact h9)
     have HC:Hid (∀w2,Sat ω w2 (itH b vb y v2*F)→IrC w2 b y):=h_ (fun w2 h=>KZ h yr)
     have hgb:g≠b:=by
      obtain⟨D9,_,hx9⟩:=AL hI.sat;have h7:=hx9.assoc.blk.cell 0;rw[q0,AR x' D9 0 (by omega)] at h7
      have h6:D9.pA=some ⟨g,0,none⟩:=by
       injection (Option.some.inj h7) with h5
       exact h5.symm
      exact Tt hx9 h6
     have hbg:b≠g:=Ne.symm hgb;have m0:=hcell 0 (by omega)
     have m1:=hcell 1 (by omega)
     have m2:=hcell 2 (by omega)
     have m3:=hcell 3 (by omega)
     have m4:=hcell 4 (by omega)
     obtain⟨io,ia,ib,ic,iN⟩:=ins;simp only[insV,List.getElem?_cons_zero,List.getElem?_cons_succ,Nat.add_zero] at m0 m1 m2 m3 m4;simp only[insV] at HD;have dZ:((x'.left:Int)==0)=false:=by simp;omega
     have hkI:(x'.at_:Int)<(x'.code.length:Int):=by omega
     have hw1:((x'.at_+1:Nat):Int)=(x'.at_:Int)+1:=by omega
     rw[hw1] at HD HS;have hll:(x'.left:Int)≤1000:=by have:=hI.it.left;omega
     rw[h0] at q5;clear hcell hins hex hin hi hround HI HS hgb;by_cases e0:ee=0
     ·obtain⟨f1,f2⟩:=k0 e0;rw[hrun] at f2;have HN:Hid (∀w2,Sat ω w2 (itH b vb {y with at_:=y.next,left:=y.left-1} v2*F)→IrInv ω F b vb dep R w2 {y with at_:=y.next,left:=y.left-1} v2∧irLeft b w2<irLeft b wr):=h_ (fun w2 h2=>by
       refine⟨⟨h2,f1,yf.elim .inl fun h9=>.inr (.inr (.inl h9.2)),?_⟩,?_⟩
       ·rw[f2,yl]
       ·rw[hME,BU h2 yr];split
        ·simp only[yl];omega
        ·omega)
      have HS2:Hid (∀w2,Sat ω w2 (itH b vb y v2*F)→Sat ω ((w2.setCell (κ b 15) y.next).setCell (κ b 17) (.int .i64 ((y.left-1:Nat):Int))) (itH b vb {y with at_:=y.next,left:=y.left-1} v2*F)):=h_ (fun w2 h2=>Ia h2 15 17 _ _ (fun D=>Tv y D yr y.next (y.left-1)) rfl rfl rfl)
      have hsub:((y.left-1:Nat):Int)=(y.left:Int)-1:=by omega
      have hyl:(y.left:Int)≤1000:=by omega
      have hyl0:0≤(y.left:Int):=by omega
      rw[hsub] at HS2;rw[e0] at HD;generalize ({y with at_:=y.next,left:=y.left-1}:PIt)=z at *
      generalize x'.code.length=NN at *
      generalize x'.at_=PP at *
      generalize x'.left=LL at *
      generalize x'.next=NX at *
      clear hI hrun hME h1 h0 h2 k0 k11 kn e0 yr yf yl H0 f1 f2;go_wp2;go_quiet (fail);go_wp2;refine rT 12 ?_;simp only[sD,sE,sF,sG];repeat still_step
      refine wpStill_nil ?_;go_wp2_with (go_at_call 183;refine(HD.o _).mono ?_;rintro e w1 ⟨rfl,hs⟩;obtain⟨⟨A5,c5,n0⟩,n3,n5,n15,n16,n17,nf,nl⟩:=HC.o _ hs;have HY:=h_ hs;clear hs);go_roundw
      case rel=>exact⟨rfl,_,_,h_ (HN.o _ (HS2.o _ HY.o)).1⟩
      case measure=>exact(HN.o _ (HS2.o _ HY.o)).2
     ·by_cases e11:ee=11
      ·have hR:R=(1,y,v2):=hrun.symm.trans (k11 e11);rw[hR];rw[e11] at HD;generalize x'.code.length=NN at *
       generalize x'.at_=PP at *
       generalize x'.left=LL at *
       generalize x'.next=NX at *
       clear hI hrun hME hR h1 h0 h2 k0 k11 kn e0 e11 yr yf yl HC H0;go_wp2;go_quiet (fail);go_wp2;refine rT 12 ?_;simp only[sD,sE,sF,sG];repeat still_step
       refine wpStill_nil ?_;go_wp2_with (go_at_call 183;refine(HD.o _).mono ?_;rintro e w1 ⟨rfl,hs⟩;have HY:=h_ hs;clear hs);go_ret;exact⟨rfl,HY.o⟩
      ·obtain⟨f1,f2⟩:=kn e0 e11;rw[hrun] at f2;have HN:Hid (∀w2,Sat ω w2 (itH b vb {y with fin:=4,err:=ee} v2*F)→IrInv ω F b vb dep R w2 {y with fin:=4,err:=ee} v2∧irLeft b w2<irLeft b wr):=h_ (fun w2 h2=>by
        refine⟨⟨h2,f1,.inr (.inr (.inr rfl)),?_⟩,?_⟩
        ·rw[f2];unfold PIt.runF;rw[if_pos (by simp)]
        ·rw[hME,BU h2 yr,if_neg (by simp)];omega)
       have HFA:Hid (∀w2,Sat ω w2 (itH b vb y v2*F)→Calls prog 182 #[.pointer b,ee] w2 (Rets ω F (.tuple #[]) (itH b vb {y with fin:=4,err:=ee} v2))):=h_ (fun w2 h2=>Lm ω _ F b vb y v2 h2 yr ee)
       have d0:((ee:Int)==0)=false:=by simp;omega
       have d11:((ee:Int)==11)=false:=by simp;omega
       generalize ({y with fin:=4,err:=ee}:PIt)=z at *
       generalize x'.code.length=NN at *
       generalize x'.at_=PP at *
       generalize x'.left=LL at *
       generalize x'.next=NX at *
       clear hI hrun hME h1 h0 h2 k0 k11 kn e0 e11 yr yf yl HC H0 f1 f2;go_wp2;go_quiet (fail);go_wp2;refine rT 12 ?_;simp only[sD,sE,sF,sG];repeat still_step
       refine wpStill_nil ?_;go_wp2_with (first
        |(go_at_call 183;refine(HD.o _).mono ?_;rintro e w1 ⟨rfl,hs⟩;have HY:=h_ hs;clear hs)
        |(go_at_call 182;refine(HFA.o _ HY.o).mono ?_;rintro e w3 ⟨rfl,hs⟩;have HZ:=h_ (HN.o _ hs);clear hs))
       go_roundw
       case rel=>exact⟨rfl,_,_,h_ HZ.o.1⟩
       case measure=>exact HZ.o.2
  ·have hR:R=(x'.fin,x',v'):=by
    rw[←hrun];unfold PIt.runF;rw[if_pos h0]
   have HX:Hid (Sat ω wr (itH b vb x' v'*F)):=h_ hI.sat;have d0:((x'.fin:Int)==0)=false:=by simp;omega
   have HR:=h_ hR;clear hI hrun hR HI h0 hME;go_wp2;go_ret;rw[HR.o];exact⟨rfl,HX.o⟩
theorem Un (ω w:World)(F:HP)(b:Nat)(s:PSt)(x:PAt)(h:Sat ω w (atH b s x*F))(dep:Nat→Nat)(hf:ItFine dep x.run x.v)(hfin:Fin4 x.run.fin):
  Calls prog 128 #[.pointer b] w (Rets ω F (.tuple #[((x.run.run x.v).1:Int),((x.run.run x.v).2.1.err:Int)]) (atH b s {x with run:=(x.run.run x.v).2.1,v:=(x.run.run x.v).2.2})):=by
 obtain⟨D,hx⟩:=AC h;obtain⟨R,hR⟩:∃R,x.run.run x.v=R:=⟨_,rfl⟩;rw[hR];have hb:=AA hx;have c9:w.cell? (κ b 9)=some (.pointer D.rb):=hb.cell 9;have lt:=hb.lt;have HS0:AtCf b s x.me x.stamp D w.drew:=(Ao (hx.emp_)).drewN 1;obtain⟨Y,hY⟩:∃Y,Y=({x with run:=R.2.1,v:=R.2.2}:PAt):=⟨_,rfl⟩
 rw[←hY];have HRUN:Hid (∀q,Calls prog 155 #[.pointer D.rb] (w.drewN q) fun e w'=>e=.returned (.int .i64 R.1)∧Sat ω w' (atX b s Y D*F)):=h_ (fun q=>by
  obtain⟨G,h1,h2⟩:=RI (hx.drewN q);refine(Tz ω _ G D.rb D.vb x.run x.v h1 dep hf hfin).mono ?_;rintro e w1 ⟨rfl,h3⟩;rw[hR] at h3 ⊢;refine⟨rfl,?_⟩;have h4:=h2 w1 emp R.2.1 R.2.2 h3.emp_;rw[hY];exact h4.perm (AD _))
 have HERR:Hid (∀w1,Sat ω w1 (atX b s Y D*F)→AtCf b s x.me x.stamp D w1∧Calls prog 156 #[.pointer D.rb] w1 fun e w'=>e=.returned (.int .i64 R.2.1.err)∧w'=w1):=h_ (fun w1 h1=>by
  obtain⟨G,h2,_⟩:=RI h1;have h3:=Ao (h1.emp_);rw[hY] at h2 h3;exact⟨h3,UB ω w1 G D.rb D.vb R.2.1 R.2.2 h2⟩)
 have HFI:Hid (∀w1,Sat ω w1 (atX b s Y D*F)→Sat ω w1 (atH b s Y*F)):=h_ (fun w1 h1=>AY h1)
 generalize x.me=me at *
 generalize x.stamp=stamp at *
 clear h hx hb hf hfin hR hY;go_enter func128,ntmps128;go_wp2;refine gN (AtCf b s me stamp D) HS0 fun hh0=>?_
 refine tH 0 ?_ rfl ?_ (tH 1 ?_ rfl ?_ (tH 2 ?_ rfl ?_ (tH 3 ?_ rfl ?_ (tH 5 ?_ rfl ?_ (tH 6 ?_ rfl ?_ (tH 7 ?_ rfl ?_ (tH 8 ?_ rfl ?_ ?_)))))));all_goals (try (
  intro w hSw;have d0:=hSw.c0;have d2:=hSw.c2;have d3:=hSw.c3;have d6:=hSw.c6;have d21:=hSw.c21;have d13:=hSw.c13;have d9:=hSw.c9;have d12:=hSw.c12;have dl:=hSw.lt;try simp only[sP]
  go_simp<;>(try with_reducible rfl)))
 try simp only[sP]
 refine oH 4 rfl fun K hK=>?_
 go_simp;go_at_call 155;refine(HRUN.o _).mono ?_;rintro e wA ⟨rfl,hs⟩;have hq:=HERR.o _ hs;have HQ1:=h_ hq.1;have HQ2:=h_ hq.2;have HZ:=h_ hs;clear hs hq;(try go_wp2_with fail);refine hK.q ?_ fun hh1=>?_
 ·exact HQ1.o
 clear hK K hh0;try simp only[sP]
 refine oH 9 rfl fun K hK=>?_
 go_simp;go_at_call 156;refine(HQ2.o).mono ?_;rintro e wB ⟨rfl,rfl⟩;(try go_wp2_with fail);refine hK.q ?_ fun hh2=>?_
 ·exact HQ1.o
 clear hK K hh1;try simp only[sP]
 refine tH 10 ?_ rfl ?_ (tH 11 ?_ rfl ?_ ?_);all_goals (try (
  intro w hSw;have d0:=hSw.c0;have d2:=hSw.c2;have d3:=hSw.c3;have d6:=hSw.c6;have d21:=hSw.c21;have d13:=hSw.c13;have d9:=hSw.c9;have d12:=hSw.c12;have dl:=hSw.lt;try simp only[sP]
  go_simp<;>(try with_reducible rfl)))
 try simp only[sP]
 refine dN ?_;go_wp2;go_ret2;exact⟨rfl,HFI.o _ HZ.o⟩
structure PSt.fit (s:PSt):Prop where
 s1:1≤s.stripes
 s2:s.stripes≤16
 w1:1≤s.wide
 w2:s.wide≤16
theorem Hf (s:PSt)(x:PAt)(D:AtD)(v:Bool):(atC s x D).setIfInBounds 25 (.bool v)=atC s {x with blocking:=v} D:=rfl
theorem MA (ω w:World)(F:HP)(b:Nat)(s:PSt)(x:PAt)(h:Sat ω w (atH b s x*F))(dep:Nat→Nat)(hf:ItFine dep x.run x.v)(hfin:Fin4 x.run.fin)(hn:∀c,x.inner≠.commit c)(hr:x.reads.length≤1000)(hs:s.fit):
  Calls prog 93 #[.pointer b] w (Rets ω F (.tuple #[]) (atH b s (x.work s))):=by
 have HDO:=h_ (Un ω w F b s x h dep hf hfin);have hrun:=(DP (x.run.left+1) x.run x.v hf hfin);obtain⟨R,hR⟩:∃R,x.run.run x.v=R:=⟨_,rfl⟩;have hR':PIt.runF (x.run.left+1) x.run x.v=R:=hR;rw[hR'] at hrun;obtain⟨hrf,hrfin⟩:=hrun;have hrn:=hrf.fin;have hneed:=hrf.it.vf.need;have hvok:=hrf.it.vf.ok;have hcl:=hrf.it.vf.logs.cells;have hW:x.work s=(match R.1 with
  |1=>PAt.ask {x with run:=R.2.1,v:=R.2.2} s R.2.2.need
  |3=>PAt.later {{x with run:=R.2.1,v:=R.2.2} with blocking:=true} s 5
  |4=>PAt.out {x with run:=R.2.1,v:=R.2.2} 4 R.2.1.err (-1)
  |_=>if R.2.2.logs.cells=[] then PAt.out {x with run:=R.2.1,v:=R.2.2} 2 0 (-1) else {{x with run:=R.2.1,v:=R.2.2} with state:=6,inner:=.commit (PCo.new x.me s.spins x.stamp x.reads R.2.2.logs.cells s.stripes s.wide)}):=by
  unfold PAt.work;rw[hR];rfl
 rw[hR] at HDO;obtain⟨Y,hY⟩:∃Y,Y=({x with run:=R.2.1,v:=R.2.2}:PAt):=⟨_,rfl⟩
 have y1:Y.v=R.2.2:=by rw[hY]
 have y2:Y.inner=x.inner:=by rw[hY]
 have y3:Y.reads=x.reads:=by rw[hY]
 have y4:Y.me=x.me:=by rw[hY]
 have y5:Y.stamp=x.stamp:=by rw[hY]
 rw[←hY] at HDO hW;obtain⟨k,rv⟩:=R;obtain⟨rit,rvw⟩:=rv;simp only at *
 by_cases k1:k=1
 ·subst k1;have HN:Hid (∀w1,Sat ω w1 (atH b s Y*F)→(∃vb,w1.cell? (κ b 12)=some (.pointer (some ⟨vb,0,none⟩))∧Calls prog 130 #[.pointer vb] w1 fun e w'=>e=.returned rvw.need∧w'=w1)∧b<w1.heap.size∧Calls prog 129 #[.pointer b,rvw.need] w1 (Rets ω F (.tuple #[]) (atH b s (x.work s)))):=h_ (fun w1 h1=>by
   obtain⟨D,hx⟩:=AC h1;have hb:=AA hx;obtain⟨G,h2,_⟩:=Dq hx;refine⟨⟨D.vb,hb.cell 12,?_⟩,hb.lt,?_⟩
   ·rw[y1] at h2;exact GN ω w1 G D.vb rvw h2
   ·rw[hW];exact RM ω w1 F b s Y h1 rvw.need hneed (by rw[y2];exact hn) hs.s1 hs.s2 hs.w1 hs.w2)
  clear h hf hfin hrf hrfin hrn hneed hvok hcl hR hR' hW hY y1 y2 y3 y4 y5 hn hr hs;go_enter func93,ntmps93;go_wp2_with (first
   |(go_at_call 128;refine(HDO.o).mono ?_;rintro e w1 ⟨rfl,hs⟩;obtain⟨⟨vb,q1,q2⟩,q3,q4⟩:=HN.o _ hs;have Q2:=h_ q2;have Q4:=h_ q4;clear hs q2 q4)
   |(go_at_call 130;refine(Q2.out).mono ?_;rintro e w2 ⟨rfl,rfl⟩)
   |(go_at_call 129;refine(Q4.out).mono ?_;rintro e w2 ⟨rfl,hs⟩;have HZ:=h_ hs;clear hs))
  exact bodyPost_end (results_none rfl _ _ _) rfl ⟨rfl,HZ.o⟩
 by_cases k3:k=3
 ·subst k3;have HN:Hid (∀w1,Sat ω w1 (atH b s Y*F)→(∃u,w1.cell? (κ b 25)=some u)∧b<w1.heap.size∧(∀i,w1.frozen? (κ b i)=false)∧Calls prog 131 #[.pointer b,ι 5] (w1.setCell (κ b 25) (.bool true)) (Rets ω F (.tuple #[]) (atH b s (x.work s)))):=h_ (fun w1 h1=>by
   obtain⟨D,hx⟩:=AC h1;have hb:=AA hx;refine⟨⟨_,hb.cell 25⟩,hb.lt,hb.frozen,?_⟩;rw[hW];exact JO ω _ F b s {Y with blocking:=true} (Bj h1 25 _ (fun D=>Hf s Y D true) rfl rfl rfl rfl) 5 (by show ∀c,Y.inner≠.commit c;rw[y2];exact hn) (by show Y.reads.length≤1000;rw[y3];exact hr))
  clear h hf hfin hrf hrfin hrn hneed hvok hcl hR hR' hW hY y1 y2 y3 y4 y5 hn hr hs k1;go_enter func93,ntmps93;go_wp2_with (first
   |(go_at_call 128;refine(HDO.o).mono ?_;rintro e w1 ⟨rfl,hs⟩;obtain⟨⟨u,q1⟩,q2,q3,q4⟩:=HN.o _ hs;have Q4:=h_ q4;clear hs q4)
   |(go_at_call 131;refine(Q4.out).mono ?_;rintro e w2 ⟨rfl,hs⟩;have HZ:=h_ hs;clear hs))
  exact bodyPost_end (results_none rfl _ _ _) rfl ⟨rfl,HZ.o⟩
 ·by_cases k4:k=4
  ·subst k4;have HO:Hid (∀w1,Sat ω w1 (atH b s Y*F)→Calls prog 92 #[.pointer b,ι 4,rit.err,ι (-1)] w1 (Rets ω F (.tuple #[]) (atH b s (x.work s)))):=h_ (fun w1 h1=>by
    rw[hW];exact Bk ω w1 F b s Y h1 4 rit.err (-1))
   clear h hf hfin hrf hrfin hrn hneed hvok hcl hR hR' hW hY y1 y2 y3 y4 y5 hn hr hs k1 k3;go_enter func93,ntmps93;go_wp2_with (first
    |(go_at_call 128;refine(HDO.o).mono ?_;rintro e w1 ⟨rfl,hs⟩;have HZ:=h_ hs;clear hs)
    |(go_at_call 92;refine(HO.o _ HZ.o).mono ?_;rintro e w2 ⟨rfl,hs⟩;have HY:=h_ hs;clear hs))
   exact bodyPost_end (results_none rfl _ _ _) rfl ⟨rfl,HY.o⟩
  ·have hW2:x.work s=if rvw.logs.cells=[] then Y.out 2 0 (-1) else {Y with state:=6,inner:=.commit (PCo.new x.me s.spins x.stamp x.reads rvw.logs.cells s.stripes s.wide)}:=by
    rw[hW];split
    ·exact absurd rfl k1
    ·exact absurd rfl k3
    ·exact absurd rfl k4
    ·rfl
   have d1:((k:Int)==1)=false:=by simp;omega
   have d3:((k:Int)==3)=false:=by simp;omega
   have d4:((k:Int)==4)=false:=by simp;omega
   have HCE:Hid (∀w1,Sat ω w1 (atH b s Y*F)→(∃vb,w1.cell? (κ b 12)=some (.pointer (some ⟨vb,0,none⟩))∧Calls prog 132 #[.pointer vb] w1 (RetR ω (atH b s Y*F) 54 2 rvw.logs.cells.length (vS rvw.logs.cells)))∧b<w1.heap.size):=h_ (fun w1 h1=>by
    obtain⟨D,hx⟩:=AC h1;have hb:=AA hx;obtain⟨G,h2,h3⟩:=Dq hx;refine⟨⟨D.vb,hb.cell 12,?_⟩,hb.lt⟩;rw[y1] at h2;refine(Hn ω w1 G D.vb rvw h2 hvok).mono ?_;rintro e w2 ⟨A,c,rfl,h4⟩;refine⟨A,c,rfl,?_⟩;have h5:=h3 w2 _ rvw h4;have h6:({Y with v:=rvw}:PAt)=Y:=by rw[←y1]
    rw[h6] at h5;exact(AY (D:=D) h5.swap).swap)
   by_cases hc:rvw.logs.cells=[]
   ·rw[if_pos hc] at hW2;rw[hc] at HCE;have HO:Hid (∀w1 A c,Sat ω w1 (row 54 2 (.slice A 0 c) 0 (vS [])*(atH b s Y*F))→Calls prog 92 #[.pointer b,ι 2,ι 0,ι (-1)] w1 (Rets ω F (.tuple #[]) (atH b s (x.work s)))):=h_ (fun w1 A c h1=>by
     rw[hW2];exact Bk ω w1 F b s Y h1.right 2 0 (-1))
    clear h hf hfin hrf hrfin hrn hneed hvok hcl hR hR' hW hW2 hY y1 y2 y3 y4 y5 hn hr hs k1 k3 k4 hc;go_enter func93,ntmps93;go_wp2_with (first
     |(go_at_call 128;refine(HDO.o).mono ?_;rintro e w1 ⟨rfl,hs⟩;obtain⟨⟨vb,q1,q2⟩,q3⟩:=HCE.o _ hs;have Q2:=h_ q2;clear hs q2)
     |(go_at_call 132;refine(Q2.out).mono ?_;rintro e w2 ⟨A,c,rfl,hs⟩;have HZ:=h_ hs;clear hs)
     |(go_at_call 92;refine(HO.o _ _ _ HZ.o).mono ?_;rintro e w2 ⟨rfl,hs⟩;have HY:=h_ hs;clear hs))
    exact bodyPost_end (results_none rfl _ _ _) rfl ⟨rfl,HY.o⟩
   ·rw[if_neg hc] at hW2;obtain⟨cl,hcle⟩:∃cl,rvw.logs.cells=cl:=⟨_,rfl⟩;rw[hcle] at hc hW2 HCE hcl;obtain⟨N,hN⟩:∃N,cl.length=N:=⟨_,rfl⟩;have hN0:((N:Int)==0)=false:=by
     have:N≠0:=fun e=>hc (List.length_eq_zero_iff.1 (hN.trans e))
     simp;omega
    rw[hN] at HCE;obtain⟨pc,hcc⟩:∃pc,PCo.new x.me s.spins x.stamp x.reads cl s.stripes s.wide=pc:=⟨_,rfl⟩;rw[hcc] at hW2;have HB:Hid (∀w2 A2 c2,Sat ω w2 (row 54 2 (.slice A2 N c2) N (vS cl)*(atH b s Y*F))→∃D,Sat ω w2 (row 54 2 (.slice A2 N c2) N (vS cl)*(atX b s Y D*F))∧AtCf b s x.me x.stamp D w2):=h_ (fun w2 A2 c2 h1=>by
     obtain⟨D,h2⟩:=AC h1.swap;refine⟨D,h2.swap,?_⟩
     have:=Ao (h2.swap)
     rw[y4,y5] at this;exact this)
    have HALL:Hid (∀D w2 A2 c2,Sat ω w2 (row 54 2 (.slice A2 N c2) N (vS cl)*(atX b s Y D*F))→Calls prog 105 #[.pointer (some ⟨D.db,0,none⟩)] w2 fun e w'=>∃A c,e=.returned (.slice A x.reads.length c)∧Sat ω w' (row 148 2 (.slice A x.reads.length c) x.reads.length (vS x.reads)*(row 54 2 (.slice A2 N c2) N (vS cl)*(atX b s Y D*F)))):=h_ (fun D w2 A2 c2 h1=>by
     obtain⟨G,h2,h3⟩:=MB h1.swap;rw[y3] at h2;refine(Jr ω _ G D.db x.reads h2 hr).mono ?_;rintro e w1 ⟨A,c,rfl,h4⟩;have h5:=h3 w1 _ x.reads h4;have h6:({Y with reads:=x.reads}:PAt)=Y:=by rw[←y3]
     rw[h6] at h5;exact⟨A,c,rfl,h5.perm (by ac_rfl)⟩)
    have HCO:Hid (∀D w2 A c A2 c2,Sat ω w2 (row 148 2 (.slice A x.reads.length c) x.reads.length (vS x.reads)*(row 54 2 (.slice A2 N c2) N (vS cl)*(atX b s Y D*F)))→Calls prog 133 #[x.me,s.spins,υ x.stamp,.slice A x.reads.length c,.slice A2 N c2,s.stripes,s.wide] w2 fun e w'=>∃g,e=.returned (.pointer (some ⟨g,0,none⟩))∧Sat ω w' (coH g pc*(atX b s Y D*F))):=h_ (fun D w2 A c9 A2 c2 h1=>by
     rw[←hN] at h1 ⊢;refine(UR ω w2 _ x.me s.spins x.stamp x.reads cl A A2 c9 c2 s.stripes s.wide h1 hr (by have:=hcl.1;omega) (fun y hy=>(hcl.2 y hy).1) hs.s1 hs.s2 hs.w1 hs.w2).mono ?_
     rintro e w3 ⟨g,rfl,h2⟩;rw[hcc] at h2;exact⟨g,rfl,(h2.swap.right).swap.right⟩)
    have HCF:Hid (∀D w1 g,Sat ω w1 (coH g pc*(atX b s Y D*F))→AtCf b s x.me x.stamp D w1∧w1.frozen? (κ b 18)=false∧b<w1.heap.size∧(∃u,w1.cell? (κ b 18)=some u)∧∃G,Sat ω (w1.setCell (κ b 18) (pV g)) (bk b 198 (atC s Y {D with cp:=pV g})*G)∧(∀w2,Sat ω w2 (bk b 198 (atC s Y {D with cp:=pV g})*G)→Calls prog 134 #[.pointer b,ι 6,.iface 196 (pV g)] w2 (Rets ω F (.tuple #[]) (atH b s (x.work s))))):=h_ (fun D w1 g h1=>by
     have h0:=Ao h1;rw[y4,y5] at h0;unfold atX at h1;have h5:Sat ω w1 (bk b 198 (atC s Y D)*(inH D Y.inner*(coH g pc*(itH D.rb D.vb Y.run Y.v*(rdH D.db Y.reads*F))))):=h1.perm (by ac_rfl)
     have hb:=h5.blk;refine⟨h0,hb.frozen 18,hb.lt,⟨_,hb.cell 18⟩,(coH g pc*(itH D.rb D.vb Y.run Y.v*(rdH D.db Y.reads*F))),((h5.put 18 (pV g) (cs':=atC s Y {D with cp:=pV g}) rfl).swap).right,fun w2 h6=>?_⟩
     refine(FM ω w2 _ b s Y {D with cp:=pV g} h6 6 _ g).mono ?_
     rintro e w3 ⟨rfl,h7⟩;refine⟨rfl,AY (D:={D with cp:=pV g,inn:=.iface 196 (pV g)}) ?_⟩
     have h8:Sat ω w3 (coH g pc*(bk b 198 (atC s {Y with state:=6} {D with cp:=pV g,inn:=.iface 196 (pV g)})*(itH D.rb D.vb Y.run Y.v*(rdH D.db Y.reads*F)))):=h7.swap
     have h9:Sat ω w3 (inH {D with cp:=pV g,inn:=.iface 196 (pV g)} (.commit pc)*(bk b 198 (atC s {Y with state:=6} {D with cp:=pV g,inn:=.iface 196 (pV g)})*(itH D.rb D.vb Y.run Y.v*(rdH D.db Y.reads*F)))):=Sat.to_ex (f:=fun g9=>fact ((Value.iface 196 (pV g))=.iface 196 (pV g9)∧pV g=pV g9)*coH g9 pc) g ((h8.to_fact ⟨rfl,rfl⟩).assoc')
     rw[hW2];unfold atX;exact h9.perm (by simp only;ac_rfl))
    have HCR:Hid (∀D w1 A c A2 c2,Sat ω w1 (row 148 2 (.slice A x.reads.length c) x.reads.length (vS x.reads)*(row 54 2 (.slice A2 N c2) N (vS cl)*(atX b s Y D*F)))→AtCf b s x.me x.stamp D w1):=h_ (fun D w1 A c A2 c2 h1=>by
     have:=Ao h1.right
     rw[y4,y5] at this;exact this)
    generalize x.me=me at *
    generalize x.stamp=stamp at *
    generalize x.reads.length=rl at *
    generalize vS cl=vcl at *
    clear h hf hfin hrf hrfin hrn hneed hvok hcl hR hR' hW hW2 hY y1 y2 y3 y4 y5 hn hr hs k1 k3 k4 hc hN hcc hcle;go_enter func93,ntmps93;go_wp2_with (first
     |(go_at_call 128;refine(HDO.o).mono ?_;rintro e w1 ⟨rfl,hs⟩;obtain⟨⟨vb,q1,q2⟩,q3⟩:=HCE.o _ hs;have Q2:=h_ q2;clear hs q2)
     |(go_at_call 132;refine(Q2.out).mono ?_;rintro e w2 ⟨A2,c2,rfl,hs⟩;obtain⟨D,hs2,hcf⟩:=HB.o _ _ _ hs;have HZ:Hid (∀q,Sat ω (w2.drewN q) _):=h_ (fun q=>hs2.drewN q);have HS0:AtCf b s me stamp D w2.drew:=hcf.drewN 1;clear hs hs2 hcf))
    refine gN (AtCf b s me stamp D) HS0 fun hh0=>?_
    refine tH 0 ?_ rfl ?_ (tH 1 ?_ rfl ?_ (tH 2 ?_ rfl ?_ (tH 3 ?_ rfl ?_ (tH 4 ?_ rfl ?_ (tH 5 ?_ rfl ?_ (tH 6 ?_ rfl ?_ (tH 7 ?_ rfl ?_ (tH 8 ?_ rfl ?_ (tH 9 ?_ rfl ?_ (tH 10 ?_ rfl ?_ (tH 11 ?_ rfl ?_ (tH 12 ?_ rfl ?_ (tH 13 ?_ rfl ?_ (tH 14 ?_ rfl ?_ (tH 15 ?_ rfl ?_ (tH 16 ?_ rfl ?_ (tH 17 ?_ rfl ?_ (tH 19 ?_ rfl ?_ (tH 20 ?_ rfl ?_ (tH 21 ?_ rfl ?_ (tH 22 ?_ rfl ?_ (tH 23 ?_ rfl ?_ (tH 24 ?_ rfl ?_ (tH 25 ?_ rfl ?_ (tH 26 ?_ rfl ?_ (tH 27 ?_ rfl ?_ (tH 28 ?_ rfl ?_ (tH 29 ?_ rfl ?_ (tH 30 ?_ rfl ?_ (tH 31 ?_ rfl ?_ ?_))))))))))))))))))))))))))))));all_goals (try (
     intro w hSw;have d0:=hSw.c0;have d2:=hSw.c2;have d3:=hSw.c3;have d6:=hSw.c6;have d21:=hSw.c21;have d13:=hSw.c13;have d9:=hSw.c9;have d12:=hSw.c12;have dl:=hSw.lt;try simp only[sP]
     go_simp<;>(try with_reducible rfl)))
    try simp only[sP]
    refine oH 18 rfl fun K hK=>?_
    go_simp;go_at_call 105;refine(HALL.o _ _ _ _ (HZ.o _)).mono ?_;rintro e wA ⟨A,c9,rfl,hs⟩;have HR:=h_ hs;clear hs;(try go_wp2_with fail);refine hK.q ?_ fun hh1=>?_
    ·exact HCR.o _ _ _ _ _ _ HR.o
    clear hK K hh0;try simp only[sP]
    refine oH 32 rfl fun K hK=>?_
    go_simp;go_at_call 133;refine(HCO.o _ _ _ _ _ _ HR.o).mono ?_;rintro e wB ⟨g,rfl,hs⟩;obtain⟨q5,q6,q7,⟨u9,q8⟩,G9,q9,q10⟩:=HCF.o _ _ _ hs;have Q5:=h_ q5;have Q9:=h_ q9;have Q10:=h_ q10;unfold pV at Q9 Q10;clear hs q5 q9 q10;(try go_wp2_with fail);refine hK.q ?_ fun hh2=>?_
    ·exact Q5.out
    clear hK K hh1;try simp only[sP]
    refine tH 33 ?_ rfl ?_ (tH 34 ?_ rfl ?_ ?_);all_goals (try (
     intro w hSw;have d0:=hSw.c0;have d2:=hSw.c2;have d3:=hSw.c3;have d6:=hSw.c6;have d21:=hSw.c21;have d13:=hSw.c13;have d9:=hSw.c9;have d12:=hSw.c12;have dl:=hSw.lt;try simp only[sP]
     go_simp<;>(try with_reducible rfl)))
    try simp only[sP]
    refine oH 35 rfl fun K hK=>?_
    go_simp;(try go_wp2_with fail);refine hK.q ?_ fun hh3=>?_
    ·exact Q5.out.setCell (i:=18) (by omega) _
    clear hK K hh2;try simp only[sP]
    refine dN ?_;have hcc:World.cell? _ ⟨b,18,none⟩=some (.pointer (some ⟨g,0,none⟩)):=Q9.out.blk.cell 18;have hcl:=Q9.out.blk.lt;go_wp2_with (go_at_call 134;refine(Q10.out _ Q9.out).mono ?_;rintro e w5 ⟨rfl,hs⟩;have HY:=h_ hs;clear hs);exact bodyPost_end (results_none rfl _ _ _) rfl ⟨rfl,HY.o⟩
theorem Sa (ω w:World)(F:HP)(b:Nat)(f:PFe)(h:Sat ω w (fetchH b f*F))(a:PAns):
  Calls prog 389 #[.pointer b,ansA a] w (Rets ω F (.tuple #[]) (fetchH b (f.tell a))):=by
 obtain⟨fr,fat,fst,fsm,state,⟨yv,yh,yo⟩,fw⟩:=f;obtain⟨f,hf⟩:∃f:PFe,f=⟨fr,fat,fst,fsm,state,⟨yv,yh,yo⟩,fw⟩:=⟨_,rfl⟩;rw[←hf] at h ⊢;have HE:Hid (f.tell a=(let r:=f.rule.hear a;if r.fin≠0 then {f with rule:=r} else if f.state=1 then {f with word:=a.word,state:=2} else if f.state=2∧a.lock=f.lock then {f with rule:=f.rule.stop 2 0 (-1)} else f.found a.lock)):=rfl
 rw[HE.o];have lt:=h.blk.lt;have H:=h_ h;obtain⟨xw,⟨xv,xh,xo⟩,xd,xe⟩:=a;have HBX:Hid (Sat ω (w.alloc (.cells #[υ xw,υ xv,.bool xh,xo,.bool xd,xe] 100)) (fetchH b f*(bk w.heap.size 100 #[υ xw,υ xv,.bool xh,xo,.bool xd,xe]*F))):=h_ (h.new _ _).swap;have HW:Hid (∀w1 F1,Sat ω w1 (fetchH b f*F1)→Calls prog 391 #[.pointer b,.agg #[υ xw,υ xv,.bool xh,xo,.bool xd,xe]] w1 (Rets ω F1 (.bool (decide ((f.rule.hear ⟨xw,⟨xv,xh,xo⟩,xd,xe⟩).fin≠0))) (fetchH b {f with rule:=f.rule.hear ⟨xw,⟨xv,xh,xo⟩,xd,xe⟩}))):=h_ (fun w1 F1 h1=>Bs ω w1 F1 b 283 f.rule (feR f) h1 ⟨xw,⟨xv,xh,xo⟩,xd,xe⟩)
 have HF:Hid (∀w1,Blk w1 b 283 (feC f)→(w1.cell? (κ b 8)=some (.int .i64 state)∧w1.cell? (κ b 9)=some (.int .u64 yv)∧w1.cell? (κ b 10)=some (.bool yh)∧w1.cell? (κ b 11)=some (.int .i64 yo)∧w1.cell? (κ b 12)=some (.int .u64 fw))):=h_ (fun w1 h=>by subst hf;exact⟨h.cell 8,h.cell 9,h.cell 10,h.cell 11,h.cell 12⟩)
 have hst:f.state=state:=by rw[hf]
 have hlk:f.lock=⟨yv,yh,yo⟩:=by rw[hf]
 rw[hst,hlk];have HI1:=h_ hst;have HI2:=h_ hlk;have hq:(f.rule.hear ⟨xw,⟨xv,xh,xo⟩,xd,xe⟩).fin=0→f.rule.hear ⟨xw,⟨xv,xh,xo⟩,xd,xe⟩=f.rule:=by
  unfold PPat.hear;split<;>simp[PPat.stop]
 generalize f.rule.hear ⟨xw,⟨xv,xh,xo⟩,xd,xe⟩=r at *
 simp only;simp only[ansA];by_cases h0:r.fin=0
 ·rw[if_neg (by simpa using h0)]
  rw[hq h0] at HW h0;rw[h0] at HW;have HS:Hid (∀w1,Sat ω w1 (fetchH b f*F)→Calls prog 392 #[.pointer b,ι 2,ι 0,ι (-1)] w1 (Rets ω F (.tuple #[]) (fetchH b {f with rule:=f.rule.stop 2 0 (-1)}))):=h_ (fun w1 h1=>BJ ω w1 F b 283 f.rule (feR f) h1 2 0 (-1))
  have HFO:Hid (∀w1,Sat ω w1 (fetchH b f*F)→Calls prog 393 #[.pointer b,.agg #[υ xv,.bool xh,xo]] w1 (Rets ω F (.tuple #[]) (fetchH b (f.found ⟨xv,xh,xo⟩)))):=h_ (fun w1 h1=>QB ω w1 F b f h1 ⟨xv,xh,xo⟩)
  by_cases h1:state=1
  ·rw[if_pos h1];subst h1;have HL:Hid (∀w1,Sat ω w1 (fetchH b f*F)→Sat ω ((w1.setCell (κ b 12) (υ xw)).setCell (κ b 8) (ι 2)) (fetchH b {f with word:=xw,state:=2}*F)):=h_ (fun w1 h1=>(h1.set 12 _).put 8 _ rfl)
   go_enter func389,ntmps389;go_wp2;refine rT 4 ?_;simp only[sD,sE,sF,sG];repeat still_step
   refine wpStill_nil ?_;go_wp2_with (go_at_call 391;refine(HW.o _ _ HBX.o.drew).mono ?_;rintro e w1 ⟨rfl,hs⟩;obtain⟨c8,c9,c10,c11,c12⟩:=HF.o _ hs.blk;have fz:=hs.blk.frozen;have lt2:=hs.blk.lt;have q:=hs.right.blk;obtain⟨q0,q1,q2,q3,q4,q5⟩:=q.six;have qf:=q.frozen;have ql:=q.lt;have HX:=h_ hs.swap.right);go_end0;exact⟨rfl,by have h9:=HL.o _ HX.o;rw[HI2.o] at h9;exact h9⟩
  ·rw[if_neg h1];by_cases h2:state=2
   ·subst h2;by_cases q1:xv=yv
    ·subst q1;by_cases q2:xh=yh
     ·subst q2;by_cases q3:xo=yo
      ·subst q3;rw[if_pos ⟨rfl,rfl⟩];go_enter func389,ntmps389;go_wp2;refine rT 4 ?_;simp only[sD,sE,sF,sG];repeat still_step
       refine wpStill_nil ?_;go_wp2_with (go_at_call 391;refine(HW.o _ _ HBX.o.drew).mono ?_;rintro e w1 ⟨rfl,hs⟩;obtain⟨c8,c9,c10,c11,c12⟩:=HF.o _ hs.blk;have fz:=hs.blk.frozen;have lt2:=hs.blk.lt;have q:=hs.right.blk;obtain⟨q0,q1,q2,q3,q4,q5⟩:=q.six;have qf:=q.frozen;have ql:=q.lt;have HX:=h_ hs.swap.right);go_quiet (fail);go_wp2_with (go_at_call 392;refine(HS.o _ (HX.o.drewN _)).mono ?_;rintro e w2 ⟨rfl,hs⟩;have HY:=h_ hs);go_end0;exact⟨rfl,by have h9:=HY.o;rw[HI1.o,HI2.o] at h9;exact h9⟩
      ·rw[if_neg (fun h=>q3 (by have:=h.2;injection this))]
       have d:¬(xo:Int)=(yo:Int):=by omega
       go_enter func389,ntmps389;go_wp2;refine rT 4 ?_;simp only[sD,sE,sF,sG];repeat still_step
       refine wpStill_nil ?_;go_wp2_with (go_at_call 391;refine(HW.o _ _ HBX.o.drew).mono ?_;rintro e w1 ⟨rfl,hs⟩;obtain⟨c8,c9,c10,c11,c12⟩:=HF.o _ hs.blk;have fz:=hs.blk.frozen;have lt2:=hs.blk.lt;have q:=hs.right.blk;obtain⟨q0,q1,q2,q3,q4,q5⟩:=q.six;have qf:=q.frozen;have ql:=q.lt;have HX:=h_ hs.swap.right);go_quiet (fail);go_wp2_with (go_at_call 393;refine(HFO.o _ (by repeat' (first|(with_reducible first|refine Sat.drewN ?_ _|refine Sat.drew ?_)|exact HX.o))).mono ?_;rintro e w2 ⟨rfl,hs⟩;have HY:=h_ hs)
       go_end0;exact⟨rfl,HY.o⟩
     ·rw[if_neg (fun h=>q2 (by have:=h.2;injection this))]
      go_enter func389,ntmps389;go_wp2;refine rT 4 ?_;simp only[sD,sE,sF,sG];repeat still_step
      refine wpStill_nil ?_;go_wp2_with (go_at_call 391;refine(HW.o _ _ HBX.o.drew).mono ?_;rintro e w1 ⟨rfl,hs⟩;obtain⟨c8,c9,c10,c11,c12⟩:=HF.o _ hs.blk;have fz:=hs.blk.frozen;have lt2:=hs.blk.lt;have q:=hs.right.blk;obtain⟨q0,q1,q2,q3,q4,q5⟩:=q.six;have qf:=q.frozen;have ql:=q.lt;have HX:=h_ hs.swap.right);go_quiet (fail);go_wp2_with (go_at_call 393;refine(HFO.o _ (by repeat' (first|(with_reducible first|refine Sat.drewN ?_ _|refine Sat.drew ?_)|exact HX.o))).mono ?_;rintro e w2 ⟨rfl,hs⟩;have HY:=h_ hs)
      go_end0;exact⟨rfl,HY.o⟩
    ·rw[if_neg (fun h=>q1 (by have:=h.2;injection this))]
     have d:¬(xv:Int)=(yv:Int):=by omega
     go_enter func389,ntmps389;go_wp2;refine rT 4 ?_;simp only[sD,sE,sF,sG];repeat still_step
     refine wpStill_nil ?_;go_wp2_with (go_at_call 391;refine(HW.o _ _ HBX.o.drew).mono ?_;rintro e w1 ⟨rfl,hs⟩;obtain⟨c8,c9,c10,c11,c12⟩:=HF.o _ hs.blk;have fz:=hs.blk.frozen;have lt2:=hs.blk.lt;have q:=hs.right.blk;obtain⟨q0,q1,q2,q3,q4,q5⟩:=q.six;have qf:=q.frozen;have ql:=q.lt;have HX:=h_ hs.swap.right);go_quiet (fail);go_wp2_with (go_at_call 393;refine(HFO.o _ (by repeat' (first|(with_reducible first|refine Sat.drewN ?_ _|refine Sat.drew ?_)|exact HX.o))).mono ?_;rintro e w2 ⟨rfl,hs⟩;have HY:=h_ hs)
     go_end0;exact⟨rfl,HY.o⟩
   ·rw[if_neg (fun h=>h2 h.1)]
    have d1:((state:Int)==1)=false:=by rw[beq_eq_false_iff_ne];omega
    have d2:((state:Int)==2)=false:=by rw[beq_eq_false_iff_ne];omega
    go_enter func389,ntmps389;go_wp2;refine rT 4 ?_;simp only[sD,sE,sF,sG];repeat still_step
    refine wpStill_nil ?_;go_wp2_with (go_at_call 391;refine(HW.o _ _ HBX.o.drew).mono ?_;rintro e w1 ⟨rfl,hs⟩;obtain⟨c8,c9,c10,c11,c12⟩:=HF.o _ hs.blk;have fz:=hs.blk.frozen;have lt2:=hs.blk.lt;have q:=hs.right.blk;obtain⟨q0,q1,q2,q3,q4,q5⟩:=q.six;have qf:=q.frozen;have ql:=q.lt;have HX:=h_ hs.swap.right);go_quiet (fail);go_wp2_with (go_at_call 393;refine(HFO.o _ (by repeat' (first|(with_reducible first|refine Sat.drewN ?_ _|refine Sat.drew ?_)|exact HX.o))).mono ?_;rintro e w2 ⟨rfl,hs⟩;have HY:=h_ hs)
    go_end0;exact⟨rfl,HY.o⟩
 ·rw[if_pos h0];rw[decide_eq_true h0] at HW;go_enter func389,ntmps389;go_wp2;refine rT 4 ?_;simp only[sD,sE,sF,sG];repeat still_step
  refine wpStill_nil ?_;go_wp2_with (go_at_call 391;refine(HW.o _ _ HBX.o.drew).mono ?_;rintro e w1 ⟨rfl,hs⟩;have HX:=h_ hs.swap.right);go_end0;exact⟨rfl,by have h9:=HX.o;rw[HI1.o,HI2.o] at h9;exact h9⟩
section
structure PCo.well (c:PCo):Prop extends PCo.wf c where
 end_:c.state=7→c.fin≠0
 lim:∀x∈c.cells,x.1≤1000000∧U64 x.2
structure PCo.base (c:PCo):Prop where
 small:c.small
 was:c.was.length≤c.stripes.length
 pos:0<c.stripes.length
 sorted:c.stripes.Pairwise (· < ·)
 lim:∀x∈c.cells,x.1≤1000000∧U64 x.2
section
variable {c : PCo}
theorem PCo.well.toBase (h:c.well):c.base:=⟨h.small,h.ok.was,h.pos,h.sorted,h.lim⟩
theorem PCo.well.rule (h:c.well){r:PPat}(hr:r.fin≠0∨r.fin=c.rule.fin):PCo.well {c with rule:=r}:=by
 have key:r.fin=0→c.rule.fin=0:=fun e=>by omega
 exact⟨⟨⟨h.small.seen,h.small.cells,h.small.stripes,h.small.was,h.small.now⟩,⟨h.ok.state,fun e=>h.ok.take (key e),fun e=>h.ok.seen (key e),fun e=>h.ok.cells (key e),fun e=>h.ok.give (key e),fun e=>h.ok.leave (key e),h.ok.was⟩,h.pos,h.sorted,fun e=>h.full (key e),h.at_⟩,h.end_,h.lim⟩
theorem EL (p:PPat)(l:PLk):(p.waits l).2.fin=p.fin:=by unfold PPat.waits;split<;>rfl
theorem PCo.base.leave (h:c.base)(h7:c.state=7)(hf:c.fin≠0)(ha:c.at_≤c.was.length)(ha2:c.at_≤1000):c.leave.well:=by
 unfold PCo.leave;split
 ·exact⟨⟨⟨h.small.seen,h.small.cells,h.small.stripes,h.small.was,h.small.now⟩,⟨by simp only;omega,fun e=>absurd e hf,fun e=>absurd e hf,fun e=>absurd e hf,fun e=>absurd e hf,fun e=>absurd e hf,h.was⟩,h.pos,h.sorted,fun e=>absurd e hf,ha2⟩,fun _=>hf,h.lim⟩
 ·exact⟨⟨⟨h.small.seen,h.small.cells,h.small.stripes,h.small.was,h.small.now⟩,⟨by omega,by omega,by omega,by omega,by omega,fun _ _=>by omega,h.was⟩,h.pos,h.sorted,by omega,ha2⟩,fun _=>hf,h.lim⟩
theorem PCo.base.stop (h:c.base){f:Nat}(hf:f≠0)(e:Nat)(b:Int):(c.stop f e b).well:=by
 unfold PCo.stop;exact PCo.base.leave (c:={c with fin:=f,err:=e,by_:=b,at_:=0,state:=7}) ⟨⟨h.small.seen,h.small.cells,h.small.stripes,h.small.was,h.small.now⟩,h.was,h.pos,h.sorted,h.lim⟩ rfl hf (Nat.zero_le _) (by simp)
theorem PCo.base.give (h:c.base)(h6:c.state=6)(ha:c.at_≤c.stripes.length)(ha2:c.at_≤1000):c.give.well:=by
 unfold PCo.give;split
 ·exact⟨⟨⟨h.small.seen,h.small.cells,h.small.stripes,h.small.was,h.small.now⟩,⟨by simp only;omega,by simp[PPat.stop],by simp[PPat.stop],by simp[PPat.stop],by simp[PPat.stop],by simp[PPat.stop],h.was⟩,h.pos,h.sorted,by simp[PPat.stop],ha2⟩,by simp only;omega,h.lim⟩
 ·exact⟨⟨⟨h.small.seen,h.small.cells,h.small.stripes,h.small.was,h.small.now⟩,⟨by omega,by omega,by omega,by omega,fun _ _=>by omega,by omega,h.was⟩,h.pos,h.sorted,by omega,ha2⟩,by omega,h.lim⟩
theorem PCo.base.write (h:c.base)(h5:c.state=5)(ha:c.at_≤c.cells.length)(ha2:c.at_≤1000):c.write.well:=by
 unfold PCo.write;split
 ·exact PCo.base.give (c:={c with at_:=0,state:=6}) ⟨⟨h.small.seen,h.small.cells,h.small.stripes,h.small.was,h.small.now⟩,h.was,h.pos,h.sorted,h.lim⟩ rfl (Nat.zero_le _) (by simp)
 ·exact⟨⟨⟨h.small.seen,h.small.cells,h.small.stripes,h.small.was,h.small.now⟩,⟨by omega,by omega,by omega,fun _ _=>by omega,by omega,by omega,h.was⟩,h.pos,h.sorted,by omega,ha2⟩,by omega,h.lim⟩
theorem PCo.base.begin (h:c.base):c.begin.well:=by
 unfold PCo.begin;exact PCo.base.write (c:={c with writing:=true,at_:=0,state:=5}) ⟨⟨h.small.seen,h.small.cells,h.small.stripes,h.small.was,h.small.now⟩,h.was,h.pos,h.sorted,h.lim⟩ rfl (Nat.zero_le _) (by simp)
theorem PCo.base.proveF:∀(n:Nat) (c:PCo),c.base→c.state=4→c.was.length=c.stripes.length→c.at_≤c.seen.length→c.seen.length<n+c.at_→(PCo.proveF n c).well
 |0,c,h,hs,hw,ha,hn=>by omega
 |n+1,c,h,hs,hw,ha,hn=>by
  unfold PCo.proveF;have hsl:=h.small.seen;by_cases h1:c.at_<c.seen.length
  ·rw[if_pos h1];split
   ·exact⟨⟨h.small,⟨by omega,by omega,fun _ _=>h1,by omega,by omega,by omega,h.was⟩,h.pos,h.sorted,fun _ _ _=>hw,by omega⟩,by omega,h.lim⟩
   ·split
    ·exact h.stop (by omega) _ _
    ·exact PCo.base.proveF n {c with at_:=c.at_+1} ⟨⟨h.small.seen,h.small.cells,h.small.stripes,h.small.was,h.small.now⟩,h.was,h.pos,h.sorted,h.lim⟩ hs hw (by simp only;omega) (by simp only;omega)
  ·rw[if_neg h1];exact h.begin
theorem PCo.base.prove (h:c.base)(hw:c.was.length=c.stripes.length)(ha:c.at_≤c.seen.length):c.prove.well:=by
 unfold PCo.prove;exact PCo.base.proveF _ {c with state:=4} ⟨⟨h.small.seen,h.small.cells,h.small.stripes,h.small.was,h.small.now⟩,h.was,h.pos,h.sorted,h.lim⟩ rfl hw ha (by simp only;omega)
theorem PCo.base.more (h:c.base)(ha:c.at_≤1000):c.more.well:=by
 unfold PCo.more;by_cases e:c.was.length=c.stripes.length
 ·rw[if_pos e];exact⟨⟨⟨h.small.seen,h.small.cells,h.small.stripes,h.small.was,h.small.now⟩,⟨by simp,by simp,by simp,by simp,by simp,by simp,h.was⟩,h.pos,h.sorted,fun _ _ _=>e,ha⟩,by simp,h.lim⟩
 ·rw[if_neg e]
  have:=h.was
  exact⟨⟨⟨h.small.seen,h.small.cells,h.small.stripes,h.small.was,h.small.now⟩,⟨by simp,fun _ _=>by simp only;omega,by simp,by simp,by simp,by simp,h.was⟩,h.pos,h.sorted,by simp,ha⟩,by simp,h.lim⟩
theorem PCo.well.heldBy (h:c.well)(l:PLk):(c.heldBy l).well:=by
 unfold PCo.heldBy;simp only;have h1:PCo.well {c with rule:=(c.rule.waits l).2}:=h.rule (.inr (EL _ _))
 split
 ·exact h1
 ·exact h1.toBase.stop (by omega) _ _
structure PCo.set (c:PCo):Prop where
 w:c.well
 atz:c.state≤3→c.at_=0
 atp:c.state=4→c.at_≤c.seen.length
theorem PCo.stop_state (f e:Nat)(b:Int):(c.stop f e b).state=7:=by
 unfold PCo.stop PCo.leave;simp only;split<;>rfl
theorem PCo.leave_state (h:c.state=7):c.leave.state=7:=by
 unfold PCo.leave;split<;>exact h
theorem PCo.give_state (h:c.state=6):c.give.state=6:=by
 unfold PCo.give;split<;>exact h
theorem PCo.write_state (h:c.state=5):c.write.state=5∨c.write.state=6:=by
 unfold PCo.write;split
 ·right;exact PCo.give_state rfl
 ·left;exact h
theorem PCo.begin_state:c.begin.state=5∨c.begin.state=6:=by
 unfold PCo.begin;exact PCo.write_state rfl
theorem PCo.proveF_state:∀(n:Nat) (c:PCo),c.state=4→c.at_≤c.seen.length→(PCo.proveF n c).state=4∧(PCo.proveF n c).at_≤(PCo.proveF n c).seen.length∨5≤(PCo.proveF n c).state
 |0,c,h,ha=>.inl ⟨h,ha⟩
 |n+1,c,h,ha=>by
  unfold PCo.proveF;by_cases h1:c.at_<c.seen.length
  ·rw[if_pos h1];split
   ·exact .inl ⟨h,ha⟩
   ·split
    ·right;rw[PCo.stop_state];omega
    ·exact PCo.proveF_state n {c with at_:=c.at_+1} h (by simp only;omega)
  ·rw[if_neg h1];right
   have:=PCo.begin_state (c:=c)
   omega
theorem PCo.set.of5 {c:PCo}(h:c.well)(h5:5≤c.state):c.set:=⟨h,by omega,by omega⟩
theorem PCo.set.prove (h:c.base)(hw:c.was.length=c.stripes.length)(ha:c.at_≤c.seen.length):c.prove.set:=by
 refine⟨h.prove hw ha,?_,?_⟩
 ·intro h9
  have:=PCo.proveF_state (c.seen.length+1) {c with state:=4} rfl ha
  unfold PCo.prove at h9;omega
 ·intro h9
  have:=PCo.proveF_state (c.seen.length+1) {c with state:=4} rfl ha
  unfold PCo.prove at h9 ⊢;omega
theorem PCo.set.heldBy (h:c.set)(l:PLk):(c.heldBy l).set:=by
 have hw:=h.w.heldBy l;refine⟨hw,?_,?_⟩
 ·unfold PCo.heldBy;simp only;split
  ·exact h.atz
  ·intro h9;rw[PCo.stop_state] at h9;omega
 ·unfold PCo.heldBy;simp only;split
  ·exact h.atp
  ·intro h9;rw[PCo.stop_state] at h9;omega
theorem PCo.set.tell (h:c.set)(a:PAns):(c.tell a).set:=by
 unfold PCo.tell;simp only;by_cases hf:(c.rule.hear a).fin≠0
 ·rw[if_pos hf];exact⟨h.w.rule (.inl hf),h.atz,h.atp⟩
 rw[if_neg hf];have hf0:c.rule.fin=0:=by
  unfold PPat.hear at hf;split at hf
  ·simp[PPat.stop] at hf
  ·simpa using hf
 have hb:=h.w.toBase;have hst:=h.w.ok.state;have hz:=h.atz;have e8:=h.w.small.stripes;have e9:=h.w.small.was;have e7:=h.w.small.cells;have htake:c.state≤1→(c.take a).set:=fun h1=>by
  have h0:=hz (by omega)
  have htk:=h.w.ok.take hf0 h1;unfold PCo.take;split
  ·exact h.heldBy _
  ·split
   ·exact⟨⟨⟨⟨h.w.small.seen,h.w.small.cells,h.w.small.stripes,h.w.small.was,h.w.small.now⟩,⟨by simp,fun _ _=>htk,by simp,by simp,by simp,by simp,h.w.ok.was⟩,h.w.pos,h.w.sorted,by simp,h.w.at_⟩,by simp,h.w.lim⟩,fun _=>h0,by simp⟩
   ·split
    ·have h2:PCo.base {c with was:=c.was++[c.lock]}:=⟨⟨h.w.small.seen,h.w.small.cells,h.w.small.stripes,by simp;omega,h.w.small.now⟩,by simp;omega,h.w.pos,h.w.sorted,h.w.lim⟩
     refine⟨h2.more h.w.at_,fun _=>h0,fun h9=>?_⟩
     unfold PCo.more at h9;simp only at h9;split at h9<;>omega
    ·exact⟨⟨⟨⟨h.w.small.seen,h.w.small.cells,h.w.small.stripes,h.w.small.was,h.w.small.now⟩,⟨by simp,fun _ _=>htk,by simp,by simp,by simp,by simp,h.w.ok.was⟩,h.w.pos,h.w.sorted,by simp,h.w.at_⟩,by simp,h.w.lim⟩,fun _=>h0,by simp⟩
 have hraise:c.state=2∨c.state=3→(c.raise a).set:=fun h1=>by
  have h0:=hz (by omega)
  have hfull:=h.w.full hf0 (by omega) (by omega)
  unfold PCo.raise;split
  ·exact PCo.set.of5 (hb.stop (by omega) _ _) (by rw[PCo.stop_state];omega)
  ·split
   ·rename_i h3 h4;exact⟨⟨⟨⟨h.w.small.seen,h.w.small.cells,h.w.small.stripes,h.w.small.was,by simp only;omega⟩,⟨by simp,by simp,by simp,by simp,by simp,by simp,h.w.ok.was⟩,h.w.pos,h.w.sorted,fun _ _ _=>hfull,h.w.at_⟩,by simp,h.w.lim⟩,fun _=>h0,by simp⟩
   ·split
    ·exact⟨⟨⟨⟨h.w.small.seen,h.w.small.cells,h.w.small.stripes,h.w.small.was,h.w.small.now⟩,⟨by simp,by simp,by simp,by simp,by simp,by simp,h.w.ok.was⟩,h.w.pos,h.w.sorted,fun _ _ _=>hfull,h.w.at_⟩,by simp,h.w.lim⟩,fun _=>h0,by simp⟩
    ·split
     ·exact PCo.set.of5 hb.begin (by have:=PCo.begin_state (c:=c);omega)
     ·exact PCo.set.prove hb hfull (by omega)
 rcases(by omega:c.state=0∨c.state=1∨c.state=2∨c.state=3∨c.state=4∨c.state=5∨c.state=6∨c.state=7) with h0|h0|h0|h0|h0|h0|h0|h0
 ·simp only[h0];exact htake (by omega)
 ·simp only[h0];exact htake (by omega)
 ·simp only[h0];exact hraise (by omega)
 ·simp only[h0];exact hraise (by omega)
 ·have hfull:=h.w.full hf0 (by omega) (by omega)
  have hsn:=h.w.ok.seen hf0 h0;simp only[h0];unfold PCo.proved;split
  ·exact h.heldBy _
  ·split
   ·exact PCo.set.of5 (hb.stop (by omega) _ _) (by rw[PCo.stop_state];omega)
   ·exact PCo.set.prove (c:={c with at_:=c.at_+1}) ⟨⟨h.w.small.seen,h.w.small.cells,h.w.small.stripes,h.w.small.was,h.w.small.now⟩,hb.was,h.w.pos,h.w.sorted,h.w.lim⟩ hfull (by simp only;omega)
 ·have hx:=h.w.ok.cells hf0 h0;have hb2:PCo.base {c with at_:=c.at_+1}:=⟨⟨h.w.small.seen,h.w.small.cells,h.w.small.stripes,h.w.small.was,h.w.small.now⟩,hb.was,h.w.pos,h.w.sorted,h.w.lim⟩
  have e:({c with at_:=c.at_+1}:PCo).write.set:=PCo.set.of5 (hb2.write h0 (by simp only;omega) (by simp only;omega)) (by have:=PCo.write_state (c:={c with at_:=c.at_+1}) h0;omega)
  split;all_goals first|exact e|omega
 ·have hx:=h.w.ok.give hf0 h0;have hb2:PCo.base {c with at_:=c.at_+1}:=⟨⟨h.w.small.seen,h.w.small.cells,h.w.small.stripes,h.w.small.was,h.w.small.now⟩,hb.was,h.w.pos,h.w.sorted,h.w.lim⟩
  have e:({c with at_:=c.at_+1}:PCo).give.set:=PCo.set.of5 (hb2.give h0 (by simp only;omega) (by simp only;omega)) (by have:=PCo.give_state (c:={c with at_:=c.at_+1}) h0;omega)
  split;all_goals first|exact e|omega
 ·have hx:=h.w.ok.leave hf0 h0;have hb2:PCo.base {c with at_:=c.at_+1}:=⟨⟨h.w.small.seen,h.w.small.cells,h.w.small.stripes,h.w.small.was,h.w.small.now⟩,hb.was,h.w.pos,h.w.sorted,h.w.lim⟩
  have e:({c with at_:=c.at_+1}:PCo).leave.set:=PCo.set.of5 (hb2.leave h0 (h.w.end_ h0) (by simp only;omega) (by simp only;omega)) (by have:=PCo.leave_state (c:={c with at_:=c.at_+1}) h0;omega)
  split;all_goals first|exact e|omega
end
end
section
theorem Mx (v:Value)(w:World):(method 535 194 v "Next").run prog w=.ok (388,v) w:=by kernel_rfl
theorem Mw (v:Value)(w:World):(method 535 194 v "Tell").run prog w=.ok (389,v) w:=by kernel_rfl
theorem Ei (v:Value)(w:World):(method 535 194 v "End").run prog w=.ok (194,v) w:=by kernel_rfl
theorem Gb (v:Value)(w:World):(method 535 194 v "By").run prog w=.ok (387,v) w:=by kernel_rfl
theorem Mz (v:Value)(w:World):(method 535 195 v "Next").run prog w=.ok (396,v) w:=by kernel_rfl
theorem My (v:Value)(w:World):(method 535 195 v "Tell").run prog w=.ok (397,v) w:=by kernel_rfl
theorem Ej (v:Value)(w:World):(method 535 195 v "End").run prog w=.ok (199,v) w:=by kernel_rfl
theorem Gc (v:Value)(w:World):(method 535 195 v "By").run prog w=.ok (395,v) w:=by kernel_rfl
theorem NB (v:Value)(w:World):(method 535 196 v "Next").run prog w=.ok (399,v) w:=by kernel_rfl
theorem NA (v:Value)(w:World):(method 535 196 v "Tell").run prog w=.ok (400,v) w:=by kernel_rfl
theorem Ek (v:Value)(w:World):(method 535 196 v "End").run prog w=.ok (145,v) w:=by kernel_rfl
theorem Gd (v:Value)(w:World):(method 535 196 v "By").run prog w=.ok (398,v) w:=by kernel_rfl
structure AtWell (x:PAt):Prop where
 st:x.state≤8
 s3:x.state=3→∃f,x.inner=.fetch f
 s4:x.state=4∨x.state=5→∃e,x.inner=.extend e∧e.ok∧e.seen.length≤16∧e.at_≤16
 s6:x.state=6→∃c,x.inner=.commit c∧c.set
 nc:x.state≤5→∀c,x.inner≠.commit c
 stamp:x.stamp≤4611686018427387904
def AtNext (w:World)(r:POp×Bool)(e:Ending)(w':World):Prop:=e=.returned (.tuple #[opA r.1,.bool r.2])∧Only Nob w w'
section
variable {ω w : World} {F : HP} {b : Nat} {s : PSt} {x : PAt} {D : AtD}
theorem AF (h:Sat ω w (atX b s x D*F)):∃G,Sat ω w (inH D x.inner*G)∧∀w' P i,Sat ω w' (P*(inH D i*G))→Sat ω w' (P*(atX b s {x with inner:=i} D*F)):=by
 unfold atX at h;refine⟨bk b 198 (atC s x D)*(itH D.rb D.vb x.run x.v*(rdH D.db x.reads*F)),h.perm (by ac_rfl),fun w' P i h2=>?_⟩
 unfold atX;exact h2.perm (by ac_rfl)
theorem Ci {f:PFe}(h:Sat ω w (inH D (.fetch f)*F)):∃g,D.inn=.iface 194 (.pointer (some ⟨g,0,none⟩))∧D.fp=.pointer g∧Sat ω w (fetchH g f*F)∧∀w' P f',Sat ω w' (P*(fetchH g f'*F))→Sat ω w' (P*(inH D (.fetch f')*F)):=by
 obtain⟨g,h1⟩:=h.of_ex;obtain⟨h2,h3⟩:=h1.assoc.of_fact;exact⟨g,h2.1,h2.2.1,h3,fun w' P f' h4=>(Sat.to_ex (f:=fun g9=>fact (D.inn=.iface 194 (pV g9)∧D.fp=pV g9∧D.cp=.pointer none)*fetchH g9 f') g ((h4.swap.to_fact h2).assoc')).swap⟩
theorem DT {f:PEx}(h:Sat ω w (inH D (.extend f)*F)):∃g,D.inn=.iface 195 (.pointer (some ⟨g,0,none⟩))∧D.ep=.pointer g∧Sat ω w (extH g f*F)∧∀w' P f',Sat ω w' (P*(extH g f'*F))→Sat ω w' (P*(inH D (.extend f')*F)):=by
 obtain⟨g,h1⟩:=h.of_ex;obtain⟨h2,h3⟩:=h1.assoc.of_fact;exact⟨g,h2.1,h2.2.1,h3,fun w' P f' h4=>(Sat.to_ex (f:=fun g9=>fact (D.inn=.iface 195 (pV g9)∧D.ep=pV g9∧D.cp=.pointer none)*extH g9 f') g ((h4.swap.to_fact h2).assoc')).swap⟩
theorem DU {f:PCo}(h:Sat ω w (inH D (.commit f)*F)):∃g,D.inn=.iface 196 (.pointer (some ⟨g,0,none⟩))∧D.cp=.pointer g∧Sat ω w (coH g f*F)∧∀w' P f',Sat ω w' (P*(coH g f'*F))→Sat ω w' (P*(inH D (.commit f')*F)):=by
 obtain⟨g,h1⟩:=h.of_ex;obtain⟨h2,h3⟩:=h1.assoc.of_fact;exact⟨g,h2.1,h2.2,h3,fun w' P f' h4=>(Sat.to_ex (f:=fun g9=>fact (D.inn=.iface 196 (pV g9)∧D.cp=pV g9)*coH g9 f') g ((h4.swap.to_fact h2).assoc')).swap⟩
end
theorem RH (ω w:World)(F:HP)(b:Nat)(s:PSt)(x:PAt)(h:Sat ω w (atH b s x*F))(hst:x.state=0)(hsm:x.stamp≤4611686018427387904):
  Calls prog 59 #[.pointer b] w (AtNext w x.next):=by
 have HE:Hid (x.next=({POp.at' 9 x.me with word:=1},true)):=h_ (by unfold PAt.next;rw[hst];rfl)
 obtain⟨D,hx⟩:=AC h;have hb:=AA hx;have c14:w.cell? (κ b 14)=some (.int .i64 0):=by have:=hb.cell 14;rw[this];show some (Value.int .i64 x.state)=_;rw[hst];rfl
 have c0:=hb.c 0;have c21:=hb.c 21;have lt:=hb.lt;have lt1:b<w.heap.size+1:=by omega
 have hw:IntKind.u64.wrap ((x.stamp:Int)+1)=((x.stamp+1:Nat):Int):=by rw[IntKind.wrap_u64];omega
 rw[HE.o];unfold AtNext opA;try unfold POp.at'
 unfold POp.zero PLk.zero;simp only;generalize x.me=me at *
 generalize x.stamp=stamp at *
 go_enter func59,ntmps59;go_wp2;refine bodyPost_ret (v:=.tuple #[.agg #[ι 9,me,υ 0,υ 1,υ 0,.bool false,ι 0,υ 0,.bool false,ι 0],.bool true]) (by simp[results,results59,go_sem]) rfl ⟨?_,?_⟩
 ·first|rfl|simp
 ·repeat' (first|exact Only.refl _ _|(with_reducible first|refine Only.setCell ?_ ?_ _|refine Only.alloc ?_ _|refine Only.drew ?_))
  all_goals (try exact .inr (Nat.le_refl _))
theorem RG (ω w:World)(F:HP)(b:Nat)(s:PSt)(x:PAt)(h:Sat ω w (atH b s x*F))(hst:x.state=1)(hsm:x.stamp≤4611686018427387904):
  Calls prog 59 #[.pointer b] w (AtNext w x.next):=by
 have HE:Hid (x.next=(POp.at' 6 0,true)):=h_ (by unfold PAt.next;rw[hst];rfl)
 obtain⟨D,hx⟩:=AC h;have hb:=AA hx;have c14:w.cell? (κ b 14)=some (.int .i64 1):=by have:=hb.cell 14;rw[this];show some (Value.int .i64 x.state)=_;rw[hst];rfl
 have c0:=hb.c 0;have c21:=hb.c 21;have lt:=hb.lt;have lt1:b<w.heap.size+1:=by omega
 have hw:IntKind.u64.wrap ((x.stamp:Int)+1)=((x.stamp+1:Nat):Int):=by rw[IntKind.wrap_u64];omega
 rw[HE.o];unfold AtNext opA;try unfold POp.at'
 unfold POp.zero PLk.zero;simp only;generalize x.me=me at *
 generalize x.stamp=stamp at *
 go_enter func59,ntmps59;go_wp2;refine bodyPost_ret (v:=.tuple #[.agg #[ι 6,ι 0,υ 0,υ 0,υ 0,.bool false,ι 0,υ 0,.bool false,ι 0],.bool true]) (by simp[results,results59,go_sem]) rfl ⟨?_,?_⟩
 ·first|rfl|simp
 ·repeat' (first|exact Only.refl _ _|(with_reducible first|refine Only.setCell ?_ ?_ _|refine Only.alloc ?_ _|refine Only.drew ?_))
  all_goals (try exact .inr (Nat.le_refl _))
theorem RE (ω w:World)(F:HP)(b:Nat)(s:PSt)(x:PAt)(h:Sat ω w (atH b s x*F))(hst:x.state=7)(hsm:x.stamp≤4611686018427387904):
  Calls prog 59 #[.pointer b] w (AtNext w x.next):=by
 have HE:Hid (x.next=(POp.at' 9 x.me,true)):=h_ (by unfold PAt.next;rw[hst];rfl)
 obtain⟨D,hx⟩:=AC h;have hb:=AA hx;have c14:w.cell? (κ b 14)=some (.int .i64 7):=by have:=hb.cell 14;rw[this];show some (Value.int .i64 x.state)=_;rw[hst];rfl
 have c0:=hb.c 0;have c21:=hb.c 21;have lt:=hb.lt;have lt1:b<w.heap.size+1:=by omega
 have hw:IntKind.u64.wrap ((x.stamp:Int)+1)=((x.stamp+1:Nat):Int):=by rw[IntKind.wrap_u64];omega
 rw[HE.o];unfold AtNext opA;try unfold POp.at'
 unfold POp.zero PLk.zero;simp only;generalize x.me=me at *
 generalize x.stamp=stamp at *
 go_enter func59,ntmps59;go_wp2;refine bodyPost_ret (v:=.tuple #[.agg #[ι 9,me,υ 0,υ 0,υ 0,.bool false,ι 0,υ 0,.bool false,ι 0],.bool true]) (by simp[results,results59,go_sem]) rfl ⟨?_,?_⟩
 ·first|rfl|simp
 ·repeat' (first|exact Only.refl _ _|(with_reducible first|refine Only.setCell ?_ ?_ _|refine Only.alloc ?_ _|refine Only.drew ?_))
  all_goals (try exact .inr (Nat.le_refl _))
theorem RD (ω w:World)(F:HP)(b:Nat)(s:PSt)(x:PAt)(h:Sat ω w (atH b s x*F))(hst:x.state=8)(hsm:x.stamp≤4611686018427387904):
  Calls prog 59 #[.pointer b] w (AtNext w x.next):=by
 have HE:Hid (x.next=(POp.zero,false)):=h_ (by unfold PAt.next;rw[hst];rfl)
 obtain⟨D,hx⟩:=AC h;have hb:=AA hx;have c14:w.cell? (κ b 14)=some (.int .i64 8):=by have:=hb.cell 14;rw[this];show some (Value.int .i64 x.state)=_;rw[hst];rfl
 have c0:=hb.c 0;have c21:=hb.c 21;have lt:=hb.lt;have lt1:b<w.heap.size+1:=by omega
 have hw:IntKind.u64.wrap ((x.stamp:Int)+1)=((x.stamp+1:Nat):Int):=by rw[IntKind.wrap_u64];omega
 rw[HE.o];unfold AtNext opA;try unfold POp.at'
 unfold POp.zero PLk.zero;simp only;generalize x.me=me at *
 generalize x.stamp=stamp at *
 go_enter func59,ntmps59;go_wp2;refine bodyPost_ret (v:=.tuple #[.agg ξ,.bool false]) (by simp[results,results59,go_sem]) rfl ⟨?_,?_⟩
 ·first|rfl|simp
 ·repeat' (first|exact Only.refl _ _|(with_reducible first|refine Only.setCell ?_ ?_ _|refine Only.alloc ?_ _|refine Only.drew ?_))
  all_goals (try exact .inr (Nat.le_refl _))
theorem RF (ω w:World)(F:HP)(b:Nat)(s:PSt)(x:PAt)(h:Sat ω w (atH b s x*F))(hst:x.state=2)(hsm:x.stamp≤4611686018427387904):
  Calls prog 59 #[.pointer b] w (AtNext w x.next):=by
 have HE:Hid (x.next=({POp.at' 9 x.me with word:=x.stamp+1},true)):=h_ (by unfold PAt.next;rw[hst];rfl)
 obtain⟨D,hx⟩:=AC h;have hb:=AA hx;have c14:w.cell? (κ b 14)=some (.int .i64 2):=by have:=hb.cell 14;rw[this];show some (Value.int .i64 x.state)=_;rw[hst];rfl
 have c0:=hb.c 0;have c21:=hb.c 21;have lt:=hb.lt;have lt1:b<w.heap.size+1:=by omega
 have hw:IntKind.u64.wrap ((x.stamp:Int)+1)=((x.stamp+1:Nat):Int):=by rw[IntKind.wrap_u64];omega
 rw[HE.o];unfold AtNext opA;try unfold POp.at'
 unfold POp.zero PLk.zero;simp only;generalize x.me=me at *
 generalize x.stamp=stamp at *
 go_enter func59,ntmps59;go_wp2;refine rT 10 ?_;simp only[sD,sE,sF,sG];repeat still_step
 refine wpStill_nil ?_;go_wp2;refine bodyPost_ret (v:=.tuple #[.agg #[ι 9,me,υ 0,υ ((stamp:Int)+1),υ 0,.bool false,ι 0,υ 0,.bool false,ι 0],.bool true]) (by simp[results,results59,go_sem]) rfl ⟨?_,?_⟩
 ·first|rfl|simp
 ·repeat' (first|exact Only.refl _ _|(with_reducible first|refine Only.setCell ?_ ?_ _|refine Only.alloc ?_ _|refine Only.drew ?_))
  all_goals (try exact .inr (Nat.le_refl _))
end
end Go.Proofs.YtfodmgaliclhfaaGreatDoor
