/- Lemmas for TopPairs; no conditions. -/
import Derived.Test.YtfodmgaliclhfaaGreatDoorGJumps
import Derived.Test.YtfodmgaliclhfaaGreatDoorGAtDo
import Derived.Test.YtfodmgaliclhfaaGreatDoorGStack
namespace Go.Proofs.YtfodmgaliclhfaaGreatDoor
set_option linter.unusedVariables false
set_option linter.unusedSimpArgs false
set_option maxRecDepth 100000
set_option maxHeartbeats 8000000
open Go.RowKit
theorem runP_size {l:List PIns}(h:sizeBad l=true):runP l=(0,4):=by unfold runP;rw[if_pos h]
theorem runP_bad {l:List PIns}{k:Nat}(h:sizeBad l=false)(h2:firstBad (badB l) l.length 0=some k):runP l=((k:Int),errAt l k):=by
 unfold runP;rw[if_neg (by simp[h]),h2]
theorem runP_open {l:List PIns}{t:Int}{r:List Int}(h:sizeBad l=false)(h2:firstBad (badB l) l.length 0=none)(h3:stk l l.length=t::r):runP l=(t,12):=by
 unfold runP;rw[if_neg (by simp[h]),h2]
 simp only;rw[h3]
theorem runP_jumps {l:List PIns}(h:sizeBad l=false)(h2:firstBad (badB l) l.length 0=none)(h3:stk l l.length=[]):runP l=jumpsP l:=by
 unfold runP;rw[if_neg (by simp[h]),h2]
 simp only;rw[h3]
theorem may_c0 {x:PIns}(h:mayP x=true):0≤x.c:=by
 unfold mayP mayB at h;simp only[Bool.and_eq_true] at h
 have:=h.1.2
 simp[fitsB] at this;omega
theorem fine_c0 {l:List PIns}(h:fine l l.length):∀k,k<l.length→jumpsB (opOf l k)=true→0≤(l.getD k PIns.none).c:=fun k hk _=>may_c0 (err_zero (h k hk)).1
def RunPost (w:World)(l:List PIns)(e:Ending)(w':World):Prop:=e=.returned (pair (runP l))∧Only Nob w w'
theorem run_small (w:World)(A:Option Addr)(cap:Nat)(l:List PIns)(h:sizeBad l=true)(hn:l.length≤1000):
  Calls Tryz.prog 152 #[.agg #[.slice A l.length cap]] w (RunPost w l):=by
 have HQ:Hid (∀w',Only Nob w w'→RunPost w l (.returned (pair (0,4))) w'):=fun w' h1=>⟨by rw[runP_size h],h1⟩
 have h2:l.length=0∨40<l.length:=by simpa [sizeBad] using h
 clear h;generalize l.length=n at *
 rcases h2 with h2|h2
 ·subst h2;go_enter Tryz.func152,Tryz.ntmps152;go_wp2;go_ret2;exact HQ.o _ (Only.alloc (Only.refl _ _) _)
 ·have d1:((n:Int)==0)=false:=by simp;omega
  have d3:(n==0)=false:=by simp;omega
  have d2:decide ((40:Int)<n)=true:=by simp;omega
  go_enter Tryz.func152,Tryz.ntmps152;go_wp2;go_ret2;exact HQ.o _ (Only.alloc (Only.refl _ _) _)
theorem jumps_tup (B g:Nat)(w:World)(A:Option Addr)(cap:Nat)(l:List PIns)(hp:ProgIn w B A l)(hB:B≤w.heap.size)(hn:l.length≤1000)(hc0:∀k,k<l.length→jumpsB (opOf l k)=true→0≤(l.getD k PIns.none).c)
  (ha:IntBlk w g (regionsP l)):
  Calls Tryz.prog 179 #[.agg #[.slice A l.length cap],.slice (some ⟨g,0,none⟩) l.length l.length] w fun e w'=>e=.returned (.tuple #[.int .i64 (jumpsP l).1,.int .i64 (jumpsP l).2])∧Only Nob w w' :=
 jumps_any_ B g w A cap l hp hB hn hc0 ha
theorem run_big (B:Nat)(w:World)(A:Option Addr)(cap:Nat)(l:List PIns)(hp:ProgIn w B A l)(hB:B≤w.heap.size)(hs:sizeBad l=false):
  Calls Tryz.prog 152 #[.agg #[.slice A l.length cap]] w (RunPost w l):=by
 have h2:l.length≠0∧l.length≤40:=by
  have:¬(l.length=0∨40<l.length):=by
   intro h
   have:sizeBad l=true:=by simpa [sizeBad] using h
   rw[this] at hs;cases hs
  omega
 obtain⟨hn0,hn⟩:=h2;have d1:((l.length:Int)==0)=false:=by rw[beq_eq_false_iff_ne];omega
 have d3:(l.length==0)=false:=by rw[beq_eq_false_iff_ne];omega
 have d2:decide ((40:Int)<l.length)=false:=by simp;omega
 have d4:decide (40<l.length)=false:=by simp;omega
 have HP:=h_ hp;have HSB:=h_ hs;have HQ:Hid (∀w',Below (w.heap.size+1) (w.alloc (.cells #[.slice A l.length cap] 32)) w'→Only Nob w w'):=fun w' h1=>Only.trans (Only.alloc (Only.refl _ _) _) (Only.of_new (by simpa using h1))
 clear hp hs;go_enter Tryz.func152,Tryz.ntmps152;go_wp2;go_loopw [4,21] (fun v c wr=>∃k:Nat,k≤l.length∧c=.int .i64 k∧Hid (fine l k)∧Hid (firstBad (badB l) (l.length-k) k=firstBad (badB l) l.length 0)∧Stack wr (w.heap.size+1) v (stk l k) ∧
   Below (w.heap.size+1) (w.alloc (.cells #[.slice A l.length cap] 32)) wr)
  (fun _ c _=>l.length-(intOf c).toNat)
 case atStart=>exact⟨0,by omega,rfl,(fun j hj=>absurd hj (by omega)),rfl,Stack.nil _ _,Below.refl _ _⟩
 case round =>
  obtain⟨k,hk,rfl,hfine,hfb,hst,hbel⟩:=hrel;have hsz:w.heap.size+1≤wr.heap.size:=by have:=hbel.size;simpa using this
  have hp0:wr.cell? ⟨w.heap.size,0,none⟩=some (.slice A l.length cap):=(hbel.cell (p:=⟨w.heap.size,0,none⟩) (Nat.lt_succ_self _)).trans (cell_one_new _ _ _ 0 _ rfl);have hpf:wr.frozen? ⟨w.heap.size,0,none⟩=false:=(hbel.frozen (p:=⟨w.heap.size,0,none⟩) (Nat.lt_succ_self _)).trans ((Blk.new w 32 #[.slice A l.length cap]).frozen 0);have hwlt:w.heap.size<wr.heap.size:=by omega
  have KP:=h_ ((Blk.new w 32 #[.slice A l.length cap]).below hbel (Nat.lt_succ_self _));have hpr:ProgIn wr B A l:=(HP.o.alloc hB _).keep (hbel.mono (by omega))
  have hl5:(stk l k).length≤5:=stk_len hfine.out;have HPR:=h_ hpr;have HS:=h_ hst;have HB:=h_ hbel;clear hst hbel;by_cases hlt:k<l.length
  ·obtain⟨b,o,rfl,hlb,hi⟩:=hpr.at_ hlt;have hstep:=h_ (firstBad_step (f:=badB l) hlt);have hop:(l.getD k PIns.none).op=opOf l k:=rfl;have herr:errAt l k=wrongP l (stk l k) (l.getD k PIns.none):=rfl;have hlts:∀t∈stk l k,0≤t∧t<(l.length:Int):=fun t ht=>by have:=stk_lt l k t ht;omega
   have HLT:=h_ hlts;generalize l.getD k PIns.none=x at *
   obtain⟨i0,i1,i2,i3,i4⟩:=hi;have HE:=h_ herr;have HO:=h_ hop;have hblt:b<wr.heap.size:=by omega
   have hkI:(k:Int)<(l.length:Int):=by omega
   have H5:=h_ hl5;clear herr hop hlts hpr hl5;by_cases hw0:wrongP l (stk l k) x=0
   ·have hnb:badB l k=false:=by simp[badB,HE.o,hw0]
    have HN:Hid (firstBad (badB l) (l.length-(k+1)) (k+1)=firstBad (badB l) l.length 0):=by
     have:=hfb.out
     rw[hstep.out,hnb] at this;exact this
    have HF:Hid (fine l (k+1)):=fun j hj=>by
     rcases Nat.lt_or_ge j k with h1|h1
     ·exact hfine.out j h1
     ·obtain rfl:j=k:=by omega
      rw[HE.o];exact hw0
    have HNE:Hid (0<endsI x.op→stk l k≠[]):=fun h=>err_open hw0 (Or.inl h)
    clear hnb;go_wp2_with (first
     |(go_at_call 176;refine(wrong_any (w.heap.size+1) B _ (stk l k) x _ _ cap l (HS.o.alloc _) (Nat.lt_of_le_of_lt H5.o (by decide)) (HPR.o.alloc (by omega) _) (by simp;omega) (by omega) HLT.o).mono ?_;rintro e w2 ⟨rfl,ho2⟩;have kx:=(Blk.new wr 87 #[.int .i64 x.op,.int .i64 x.a,.int .i64 x.b,.int .i64 x.c,.int .u64 x.n]).only ho2 (fun h=>h);have kx0:=kx.five.1;have kxf:=kx.frozen;have hs2:wr.heap.size<w2.heap.size:=Nat.lt_of_lt_of_le (by simp) ho2.size)
     |(go_at_call 177;refine(behind_any (w.heap.size+1) _ (stk l k) _ _ _ ((HS.o.alloc _).only ho2) (Nat.lt_of_le_of_lt H5.o (by decide)) (by omega) HNE.o).mono ?_;rintro e w3 ⟨v',rfl,hst3,hb3⟩))
    go_roundw
    case rel =>
     refine⟨k+1,by omega,by go_num,HF,HN,?_,?_⟩
     ·rw[stk_succ,←HO.o];exact hst3
     ·exact(HB.o.alloc hsz _).trans ((below_nob ho2 (by simp;omega)).trans hb3)
    case measure=>simp[intOf];omega
   ·have hnb:badB l k=true:=by simp[badB,HE.o,hw0]
    have hz:firstBad (badB l) l.length 0=some k:=by
     have:=hfb.out
     rw[hstep.out,hnb] at this;exact this.symm
    have HZ:=h_ (runP_bad HSB.o hz);have hw1:(wrongP l (stk l k) x != 0)=true:=by simpa using hw0
    have HR:Hid (∀w',Only Nob w w'→RunPost w l (.returned (.tuple #[.int .i64 k,.int .i64 (wrongP l (stk l k) x)])) w'):=fun w' h1=>⟨by rw[HZ.o,HE.o];rfl,h1⟩
    clear hw0 hnb hz;go_wp2_with (go_at_call 176;refine(wrong_any (w.heap.size+1) B _ (stk l k) x _ _ cap l (HS.o.alloc _) (Nat.lt_of_le_of_lt H5.o (by decide)) (HPR.o.alloc (by omega) _) (by simp;omega) (by omega) HLT.o).mono ?_;rintro e w2 ⟨rfl,ho2⟩)
    go_ret2;exact HR.o _ (HQ.o _ ((HB.o.alloc hsz _).trans (below_nob ho2 (by simp;omega))))
  ·obtain rfl:k=l.length:=by omega
   have hz:firstBad (badB l) l.length 0=none:=by
    rw[←hfb.out,Nat.sub_self];rfl
   have HF:=hfine;have HBW:Hid (B≤wr.drew.heap.size):=by show B≤wr.heap.size;omega
   have hn1000:l.length≤1000:=by omega
   cases hk:stk l l.length with
   |nil =>
    have HZ:=h_ (runP_jumps HSB.o hz hk);have hsn:Stack wr (w.heap.size+1) u4 []:=by rw[←hk];exact HS.o
    clear hpr HS hl5 hk hfb;rcases hsn.form with⟨_,hv⟩|⟨gq,capq,hv,_,_,_,_⟩
    all_goals
     subst hv;clear hsn;try simp only[List.length_nil]
     go_wp2_with fail;go_region_with (first
      |(go_at_call 180;refine(regions_any B _ _ cap l HPR.o.drew (by simp;omega) (by omega) HF.o).mono ?_;rintro e w2 ⟨g,rfl,hg,hib,ho2⟩;have k2:=KP.out.drew.only ho2 (fun h=>h);have k20:=k2.one;have k2f:=k2.frozen)
      |(go_at_call 179;refine(jumps_tup B g _ _ cap l (HPR.o.drew.keep (below_nob ho2 HBW.o)) (Nat.le_trans HBW.o ho2.size) hn1000 (fine_c0 HF.o) hib).mono ?_;rintro e w3 ⟨rfl,ho3⟩))
     all_goals
      go_wp2;go_ret2;exact⟨by rw[HZ.o];rfl,Only.trans (Only.trans (Only.drew (HQ.o _ HB.o)) ho2) ho3⟩
   |cons t r =>
    have HZ:=h_ (runP_open HSB.o hz hk);have hst:Stack wr (w.heap.size+1) u4 (t::r):=by rw[←hk];exact HS.o
    rcases hst.form with⟨h0,_⟩|⟨gq,capq,hv,_,_,_,_⟩
    ·cases h0
    ·subst hv;rw[hk] at hl5;have hrl:r.length<5:=by simp at hl5;omega
     have HST:=h_ hst;clear hst hpr HS hl5 hk hfb;simp only[List.length_cons] at HST ⊢;generalize hlen:r.length=m at *
     have hlen':=h_ hlen;clear hlen;go_wp2_with (go_at_call 178;refine(inmost_cons (w.heap.size+1) _ t r _ HST.o (by simp[hlen'.out];omega)).mono ?_;rintro e w2 ⟨rfl,rfl⟩)
     go_ret2;exact⟨by rw[HZ.o];rfl,HQ.o _ HB.o⟩
theorem run_any (B:Nat)(w:World)(A:Option Addr)(cap:Nat)(l:List PIns)(hp:ProgIn w B A l)(hB:B≤w.heap.size)(hn:l.length≤1000):
  Calls Tryz.prog 152 #[.agg #[.slice A l.length cap]] w fun e w'=>e=.returned (.tuple #[.int .i64 (runP l).1,.int .i64 (runP l).2])∧Only Nob w w':=by
 cases hs:sizeBad l
 ·exact run_big B w A cap l hp hB hs
 ·exact run_small w A cap l hs hn
def fillM (n k:Nat):List Int:=List.replicate k (-1)++List.replicate (n-k) 0
theorem fillM_zero (n:Nat):fillM n 0=List.replicate n 0:=by simp[fillM]
theorem fillM_full (n:Nat):fillM n n=List.replicate n (-1):=by simp[fillM]
theorem fillM_len {n k:Nat}(h:k≤n):(fillM n k).length=n:=by simp[fillM];omega
theorem fillM_step {n k:Nat}(h:k<n):(fillM n k).set k (-1)=fillM n (k+1):=by
 unfold fillM;rw[List.set_append_right _ _ (by simp)]
 obtain⟨m,hm⟩:∃m,n-k=m+1:=⟨n-k-1,by omega⟩
 rw[hm,show n-(k+1)=m by omega]
 rw[List.length_replicate,Nat.sub_self,List.replicate_succ,List.set_cons_zero,List.replicate_succ' (n:=k),List.append_assoc];rfl
theorem endA_step_yes {l:List PIns}{k:Nat}(h:0<endsI (opOf l k)):endA l (k+1)=(endA l k).set (regAt l k).toNat k:=if_pos h
theorem endA_step_no {l:List PIns}{k:Nat}(h:¬0<endsI (opOf l k)):endA l (k+1)=endA l k:=if_neg h
theorem endB_step_yes {l:List PIns}{k:Nat}(h:opOf l k=16):endB l (k+1)=(endB l k).set k ((endB l k).getD (regAt l k).toNat 0):=if_pos h
theorem endB_step_no {l:List PIns}{k:Nat}(h:opOf l k≠16):endB l (k+1)=endB l k:=if_neg h
def IntsNew (w0 w:World)(v:Value)(l:List Int):Prop:=(l=[]∧v=.slice none 0 0)∨∃g,v=.slice (some ⟨g,0,none⟩) l.length l.length∧w0.heap.size≤g∧IntBlk w g l
def NewPost (w:World)(l:List Int)(e:Ending)(w':World):Prop:=∃v,e=.returned v∧IntsNew w w' v l∧Only Nob w w'
theorem match_new (B:Nat)(w:World)(A:Option Addr)(cap:Nat)(l:List PIns)(hp:ProgIn w B A l)(hB:B≤w.heap.size)(hn:l.length≤1000):
  Calls Tryz.prog 153 #[.agg #[.slice A l.length cap]] w (NewPost w (matchP l)):=by
 have HP:=h_ hp;have KP:=h_ (Blk.new w 32 #[.slice A l.length cap]);have HB1:Hid (B≤(w.alloc (.cells #[.slice A l.length cap] 32)).heap.size):=by unfold Hid;simp;omega
 cases hok:okP l
 ·have h2:((runP l).2 != 0)=true:=by unfold okP at hok;simpa using hok
  have HQ:Hid (∀w',Only Nob w w'→NewPost w (matchP l) (.returned (.slice none 0 0)) w'):=fun w' h=>⟨_,rfl,.inl ⟨by simp[matchP,hok],rfl⟩,h⟩
  clear hp hok;go_enter Tryz.func153,Tryz.ntmps153;go_wp2_with (go_at_call 152;refine(run_any B _ _ cap l (HP.o.alloc hB _) HB1.o hn).mono ?_;rintro e w2 ⟨rfl,ho2⟩);go_ret;exact HQ.o _ (Only.trans (Only.alloc (Only.refl _ _) _) ho2)
 ·obtain⟨_,hf,_,_,hr⟩:=runP_ok hok;have HF:=h_ hf;have h2:(runP l).2=0:=by rw[hr]
  have h1:(runP l).1=0:=by rw[hr]
  have HQ:Hid (∀g w',w.heap.size≤g→IntBlk w' g (endB l l.length)→Only Nob w w'→NewPost w (matchP l) (.returned (.slice (some ⟨g,0,none⟩) l.length l.length)) w'):=fun g w' h0 h h3 =>
   ⟨_,rfl,.inr ⟨g,by simp[matchP,hok,endB_len],h0,by simpa [matchP,hok] using h⟩,h3⟩
  have hmk:=fun w=>run_make_row' (P:=Tryz.prog) 50 3 (.int .i64 0) 8 Tryz.underlying50 infoInt rfl .i64 .i64 l.length (by omega) (by omega) w
  clear hp hok hf hr;go_enter Tryz.func153,Tryz.ntmps153;go_wp2_with (first
   |(go_at_call 152;refine(run_any B _ _ cap l (HP.o.alloc hB _) HB1.o hn).mono ?_;rintro e w2 ⟨rfl,ho2⟩;have k2:=KP.out.only ho2 (fun h=>h);have k20:=k2.one;have k2f:=k2.frozen)
   |(go_at_call 180;refine(regions_any B _ _ cap l ((HP.o.alloc hB _).keep (below_nob ho2 HB1.o)) (Nat.le_trans HB1.o ho2.size) hn HF.o).mono ?_;rintro e w3 ⟨g,rfl,hg,hib,ho3⟩;have k3:=k2.only ho3 (fun h=>h);have k30:=k3.one;have k3f:=k3.frozen;have hk3:=k3.lt))
  have H3:Hid (Only Nob w w3):=Only.trans (Only.trans (Only.alloc (Only.refl _ _) _) ho2) ho3;have HP3:Hid (ProgIn w3 B A l):=HP.o.keep (below_nob H3.o hB);have hgl:=hib.lt;have HG:=h_ hib;have HE0:=h_ (IntBlk.made w3 l.length);have hBk:B≤w.heap.size:=hB;have K3:=h_ k3;have HB0:Hid (Below w3.heap.size w3 (w3.alloc (.cells (madeCells #[.int .i64 0] l.length) 3))):=Below.alloc (Below.refl _ _) (Nat.le_refl _) _;clear ho2 ho3 k2 k20 k2f k3 hib hg HP KP HB1 k30 k3f;generalize hE:w3.heap.size=E at *
  have HE:=h_ hE;have HEW:Hid (w.heap.size≤E):=h_ (hE▸H3.o.size);clear hE;go_loopw [27] (fun c wr=>∃k:Nat,k≤l.length∧c=.int .i64 k∧IntBlk wr E (fillM l.length k)∧Below E w3 wr) (fun c _=>l.length-(intOf c).toNat)
  case atStart=>exact⟨0,by omega,rfl,by rw[fillM_zero];exact HE0.o,HB0.o⟩
  case round =>
   obtain⟨k,hk,rfl,hib,hbel⟩:=hrel;have HI:=h_ hib;have HB:=h_ hbel;have hEl:=hib.lt;by_cases hlt:k<l.length
   ·have hc:=hib.cellD 0 (k:=k) (by rw[fillM_len hk];exact hlt)
    have hcf:=hib.frozen k;have hkI:(k:Int)<(l.length:Int):=by omega
    generalize (fillM l.length k).getD k 0=old at *
    clear hib hbel;go_wp2;go_roundw
    case rel=>exact⟨k+1,by omega,by go_num,by rw[←fillM_step hlt];exact HI.o.set_ k _,HB.o.setCell (p:=⟨E,k,none⟩) (show E≤E from Nat.le_refl _) _⟩
    case measure=>simp[intOf];omega
   ·obtain rfl:k=l.length:=by omega
    have hp0:=((K3.out.below hbel hk3)).one;have hpf:=((K3.out.below hbel hk3)).frozen;have HA0:Hid (IntBlk wr E (endA l 0)):=by
     have:=HI.o
     rw[fillM_full] at this;exact this
    clear hib hbel HI;go_wp2;go_loopw [37] (fun c wq=>∃k:Nat,k≤l.length∧c=.int .i64 k∧IntBlk wq E (endA l k)∧Below E w3 wq) (fun c _=>l.length-(intOf c).toNat)
    case atStart=>exact⟨0,by omega,rfl,HA0.o,HB.o⟩
    case round =>
     clear hp0 hpf HA0 HB;obtain⟨k,hk,rfl,hib,hbel⟩:=hrel;have HI:=h_ hib;have HB:=h_ hbel;have hEl:=hib.lt;have hp0:=((K3.out.below hbel hk3)).one;have hpf:=((K3.out.below hbel hk3)).frozen;by_cases hlt:k<l.length
     ·have hpr:ProgIn wr B A l:=HP3.o.keep (hbel.mono (by omega))
      obtain⟨b,o,hA,hlb,hi⟩:=hpr.at_ hlt;subst hA;have hGi:=(HG.o.below hbel hgl).cell (regionsP_at hlt);have hop:(l.getD k PIns.none).op=opOf l k:=rfl;generalize l.getD k PIns.none=x at *
      obtain⟨i0,i1,i2,i3,i4⟩:=hi;have hblt:b<wr.heap.size:=by omega
      have hkI:(k:Int)<(l.length:Int):=by omega
      have hglt:g<wr.heap.size:=by omega
      have hwl:w.heap.size<wr.heap.size:=by omega
      have hEw:E≤wr.heap.size:=Nat.le_of_lt hEl;rw[hop] at i0;by_cases he:0<endsI (opOf l k)
      ·obtain⟨hr0,hrk⟩:=reg_ok (HF.o k hlt) (Or.inl he);have hes:=h_ (endA_step_yes (l:=l) (k:=k) he);obtain⟨t,ht⟩:=Int.eq_ofNat_of_zero_le hr0;have HT:=h_ ht;rw[ht] at hGi hrk;have htl:t<l.length:=by omega
       have htI:(t:Int)<(l.length:Int):=by omega
       have hc:=hib.cellD 0 (k:=t) (by rw[endA_len];exact htl)
       have hcf:=hib.frozen t;have d:decide (0<endsI (opOf l k))=true:=by simpa using he
       generalize (endA l k).getD t 0=old at *
       clear hib hbel hpr ht hop he hr0;generalize opOf l k=op at *
       go_wp2_with (go_at_call 181;refine(ends_any _ _).mono ?_;rintro e w1 ⟨rfl,rfl⟩);go_roundw
       case rel =>
        refine⟨k+1,by omega,by go_num,?_,?_⟩
        ·rw[hes.out,HT.o];exact((HI.o.set_ t _).alloc _)
        ·exact(HB.o.setCell (p:=⟨E,t,none⟩) (show E≤E from Nat.le_refl _) _).alloc (by simp[World.setCell];omega) _
       case measure=>simp[intOf];omega
      ·have hes:=h_ (endA_step_no (l:=l) (k:=k) he);have d:decide (0<endsI (opOf l k))=false:=by simpa using he
       clear hib hbel hpr hop he;generalize opOf l k=op at *
       go_wp2_with (go_at_call 181;refine(ends_any _ _).mono ?_;rintro e w1 ⟨rfl,rfl⟩);go_roundw
       case rel=>exact⟨k+1,by omega,by go_num,by rw[hes.out];exact HI.o.alloc _,HB.o.alloc hEw _⟩
       case measure=>simp[intOf];omega
     ·obtain rfl:k=l.length:=by omega
      have HA0:Hid (IntBlk wr E (endB l 0)):=HI.o;clear hib hbel HI;go_wp2;go_loopw [57] (fun c wq=>∃k:Nat,k≤l.length∧c=.int .i64 k∧IntBlk wq E (endB l k)∧Below E w3 wq) (fun c _=>l.length-(intOf c).toNat)
      case atStart=>exact⟨0,by omega,rfl,HA0.o,HB.o⟩
      case round =>
       clear hp0 hpf HA0 HB;obtain⟨k,hk,rfl,hib,hbel⟩:=hrel;have HI:=h_ hib;have HB:=h_ hbel;have hEl:=hib.lt;have hp0:=((K3.out.below hbel hk3)).one;have hpf:=((K3.out.below hbel hk3)).frozen;by_cases hlt:k<l.length
       ·have hpr:ProgIn wr B A l:=HP3.o.keep (hbel.mono (by omega))
        obtain⟨b,o,hA,hlb,hi⟩:=hpr.at_ hlt;subst hA;have hGi:=(HG.o.below hbel hgl).cell (regionsP_at hlt);have hop:(l.getD k PIns.none).op=opOf l k:=rfl;generalize l.getD k PIns.none=x at *
        obtain⟨i0,i1,i2,i3,i4⟩:=hi;have hblt:b<wr.heap.size:=by omega
        have hkI:(k:Int)<(l.length:Int):=by omega
        have hglt:g<wr.heap.size:=by omega
        have hwl:w.heap.size<wr.heap.size:=by omega
        have hEw:E≤wr.heap.size:=Nat.le_of_lt hEl;rw[hop] at i0;by_cases he:opOf l k=16
        ·obtain⟨hr0,hrk⟩:=reg_ok (HF.o k hlt) (Or.inr he);have hes:=h_ (endB_step_yes (l:=l) (k:=k) he);obtain⟨t,ht⟩:=Int.eq_ofNat_of_zero_le hr0;have HT:=h_ ht;rw[ht] at hGi hrk;have htl:t<l.length:=by omega
         have htI:(t:Int)<(l.length:Int):=by omega
         have hc:=hib.cellD 0 (k:=t) (by rw[endB_len];exact htl)
         have hc2:=hib.cellD 0 (k:=k) (by rw[endB_len];exact hlt)
         have hcf:=hib.frozen t;have hcf2:=hib.frozen k;have d:(opOf l k==16)=true:=by simpa using he
         generalize hold:(endB l k).getD t 0=old at *
         have HO:=h_ hold;generalize (endB l k).getD k 0=old2 at *
         clear hib hbel hpr ht hop he hr0 hold;generalize opOf l k=op at *
         go_wp2;go_roundw
         case rel =>
          refine⟨k+1,by omega,by go_num,?_,?_⟩
          ·rw[hes.out,HT.o,Int.toNat_natCast,HO.o];exact((HI.o.set_ k _).alloc _)
          ·exact(HB.o.setCell (p:=⟨E,k,none⟩) (show E≤E from Nat.le_refl _) _).alloc (by simp[World.setCell];omega) _
         case measure=>simp[intOf];omega
        ·have hes:=h_ (endB_step_no (l:=l) (k:=k) he);have d:(opOf l k==16)=false:=by simpa using he
         clear hib hbel hpr hop he;generalize opOf l k=op at *
         go_wp2;go_roundw
         case rel=>exact⟨k+1,by omega,by go_num,by rw[hes.out];exact HI.o.alloc _,HB.o.alloc hEw _⟩
         case measure=>simp[intOf];omega
       ·obtain rfl:k=l.length:=by omega
        have HN:Hid (Only Nob w wr):=Only.trans H3.o (Only.of_below HB.o (fun k h1 h2=>by have:=HE.o;omega))
        clear hib hbel;go_wp2;go_ret;exact HQ.o _ _ HEW.o HI.o HN.o
def prH (A:Option Addr)(c:Nat)(l:List PIns):HP:=row 87 5 (.slice A l.length c) l.length (l.flatMap insV)
theorem insV_flat (l:List PIns):(l.flatMap insV).length=l.length*5:=by
 induction l with
 |nil=>rfl
 |cons i l ih=>simp only[List.flatMap_cons,List.length_append,insV_len,ih,List.length_cons];omega
theorem insV_one (l:List PIns):∀u∈l.flatMap insV,u.oneCell'=true:=by
 intro u hu;obtain⟨i,hi,hu⟩:=List.mem_flatMap.1 hu;simp[insV] at hu;rcases hu with rfl|rfl|rfl|rfl|rfl<;>rfl
theorem prH_in {ω w:World}{F:HP}{A:Option Addr}{c:Nat}{l:List PIns}(h:Sat ω w (prH A c l*F)):ProgIn w w.heap.size A l:=by
 intro hl;obtain⟨g,e,lg,hc⟩:=Sat.rowAt (l:=l) (f:=insV) h insV_len PIns.none (i:=0) (List.length_pos_iff.2 hl);refine⟨g,0,e,lg,fun k x hx=>?_⟩
 have hk:k<l.length:=(List.getElem?_eq_some_iff.1 hx).1;obtain⟨g2,e2,_,hc2⟩:=Sat.rowAt (l:=l) (f:=insV) h insV_len PIns.none (i:=k) hk;rw[e] at e2;injection e2 with e2
 injection e2 with e2
 subst e2;have hg:l.getD k PIns.none=x:=by rw[gD,hx];rfl
 rw[hg] at hc2;rw[Nat.zero_add];exact⟨hc2 0 (by omega),hc2 1 (by omega),hc2 2 (by omega),hc2 3 (by omega),hc2 4 (by omega)⟩
theorem Sat.fresh {ω w w':World}{F:HP}(h:Sat ω w F)(ho:Only Nob w w'){g:Nat}{t:TypeId}{cs:Array Value}(hg:w.heap.size≤g)(hb:Blk w' g t cs):Sat ω w' (bk g t cs*F):=by
 obtain⟨x,hx,hp⟩:=h.part;have h2:=h.nob ho;refine⟨h2.os,h2.tape,h2.output,_,fun k o hk=>?_,_,x,fun k=>?_,rfl,rfl,hp⟩
 ·by_cases e:k=g
  ·subst e;simp at hk;rw[←hk];exact hb
  ·simp[e] at hk;have h9:=hx k o hk;rw[ho.block k (Array.getElem?_eq_some_iff.1 h9).1 (fun e=>e)]
   exact h9
 ·by_cases e:k=g
  ·right;subst e;cases hk:x k with
   |none=>rfl
   |some o =>
    have:=(Array.getElem?_eq_some_iff.1 (hx _ _ hk)).1
    omega
  ·left;simp[e]
theorem intsNew_sat {ω w w':World}{F:HP}(h:Sat ω w F)(ho:Only Nob w w'){v:Value}{l:List Int}(hn:IntsNew w w' v l)(hl:l.length≤1000):∃A c,v=.slice A l.length c∧Sat ω w' (row 3 1 (.slice A l.length c) l.length (l.map (Value.int .i64))*F):=by
 rcases hn with⟨rfl,rfl⟩|⟨g,rfl,hg,hb⟩
 ·exact⟨none,0,rfl,(h.nob ho).nil _ _⟩
 ·refine⟨_,_,rfl,?_⟩;have h1:=(h.fresh ho hg hb).rowOf (n:=l.length) (size:=1) (by simp[ints]) (by unfold maxLen;omega)
  simpa [ints] using h1
theorem ip_new (ω w:World)(F:HP)(vb:Nat)(l:List PIns)(v:PVw)(A:Option Addr)(c:Nat)(h:Sat ω w (prH A c l*(vwH vb v*F)))(hl:l.length≤40)(hok:okP l=true)(fuel:Nat):
  Calls Tryz.prog 127 #[.agg #[.slice A l.length c],.pointer (some ⟨vb,0,none⟩),.int .i64 fuel] w (RetP ω (prH A c l*F) fun b=>itH b vb (PIt.new l fuel) v):=by
 obtain⟨i0,hi0,hz⟩:=Option.map_eq_some_iff.1 infoIns_;simp only[Prod.mk.injEq] at hz;obtain⟨hz0,hz1,hz2⟩:=hz;have HI:=h_ hi0;have HZ0:=h_ hz0;have HZ1:=h_ hz1;have HZ2:=h_ hz2;obtain⟨n,hn⟩:∃n,l.length=n:=⟨_,rfl⟩;have hm1:(matchP l).length≤1000:=by unfold matchP;rw[if_pos hok,endB_len];omega
 have HON:=h_ (insV_one l);have HN:Hid (Sat ω (w.alloc (.cells #[.slice A n c] 32)) (row 87 5 (.slice none 0 0) 0 []*(bk w.heap.size 32 #[.slice A n c]*(prH A c l*(vwH vb v*F))))):=h_ ((h.new #[.slice A n c] 32).nil _ _);have HRD:Hid (∀o,Reads (w.alloc o) (w.heap.size+1) 5 A n (l.flatMap insV)):=h_ (fun o=>by
  have h1:Sat ω (w.alloc o) (row 87 5 (.slice A n c) n (l.flatMap insV)*(vwH vb v*F)):=hn▸(h.junk o);have h9:=h1.reads;rw[World.size_alloc] at h9;exact h9)
 have hrun:(runP l).2=0:=by unfold okP at hok;simpa using hok
 obtain⟨G,hG⟩:∃G,G=vwH vb v*(prH A c l*F):=⟨_,rfl⟩;have HX:Hid (∀w1 A' c',Sat ω w1 (row 87 5 (.slice A' (0+n) c') (0+n) ([]++l.flatMap insV)*(bk w.heap.size 32 #[.slice A n c]*(prH A c l*(vwH vb v*F))))→Sat ω w1 (bk w.heap.size 32 #[.slice A n c]*(prH A' c' l*G))):=h_ (fun w1 A' c' h1=>by
  rw[Nat.zero_add,List.nil_append] at h1;unfold prH at h1 ⊢;rw[hn] at h1 ⊢;rw[hG];unfold prH;rw[hn];exact h1.perm (by ac_rfl))
 have HRUN:Hid (∀w1 A' c',Sat ω w1 (prH A' c' l*G)→Calls Tryz.prog 152 #[.agg #[.slice A' n c']] w1 fun e w'=>e=.returned (.tuple #[.int .i64 (runP l).1,.int .i64 0])∧Only Nob w1 w'):=h_ (fun w1 A' c' h1=>by
  have h9:=run_any w1.heap.size w1 A' c' l (prH_in h1) (Nat.le_refl _) (by omega)
  rw[hn,hrun] at h9;exact h9)
 have HMA:Hid (∀w1 P A' c',Sat ω w1 (P*(prH A' c' l*G))→Calls Tryz.prog 153 #[.agg #[.slice A' n c']] w1 fun e w'=>∃A9 c9,e=.returned (.slice A9 (matchP l).length c9)∧Sat ω w' (row 3 1 (.slice A9 (matchP l).length c9) (matchP l).length ((matchP l).map (Value.int .i64))*(P*(prH A' c' l*G)))):=h_ (fun w1 P A' c' h1=>by
  have h9:=match_new w1.heap.size w1 A' c' l (prH_in h1.right) (Nat.le_refl _) (by omega)
  rw[hn] at h9;refine h9.mono ?_;rintro e w2 ⟨u,rfl,hu,ho⟩;obtain⟨A9,c9,rfl,h8⟩:=intsNew_sat h1 ho hu hm1;exact⟨A9,c9,rfl,h8⟩)
 have HNEW:Hid (∀w1 P,Sat ω w1 P→Calls Tryz.prog 154 #[] w1 (RetP ω P fun b=>slH b [])):=h_ (fun w1 P h1=>sl_new ω w1 P h1)
 have efl:max (0:Int) (min (fuel:Int) 400)=((min fuel 400:Nat):Int):=by omega
 obtain⟨fl,hfl⟩:∃fl,min fuel 400=fl:=⟨_,rfl⟩;rw[hfl] at efl;obtain⟨ML,hML⟩:∃ML,(matchP l).length=ML:=⟨_,rfl⟩;rw[hML] at HMA;have HFI:Hid (∀w2 P A' c' A9 c9 sb,Sat ω w2 (slH sb []*(row 3 1 (.slice A9 ML c9) ML ((matchP l).map (Value.int .i64))*(P*(prH A' c' l*G))))→Sat ω (w2.alloc (.cells #[.slice A' n c',.pointer (some ⟨vb,0,none⟩),.slice A9 ML c9,.int .i64 0,.int .i64 0,.int .i64 0,.int .u64 0,.int .u64 0,.int .u64 0,.int .u64 0,.int .u64 0,.int .u64 0,.int .u64 0,.int .u64 0,.pointer (some ⟨sb,0,none⟩),.int .i64 0,.int .i64 0,.int .i64 fl,.slice none 0 0] 245)) (itH w2.heap.size vb (PIt.new l fuel) v*(prH A c l*F))):=h_ (fun w2 P A' c' A9 c9 sb h0=>by
  have h1:Sat ω w2 (slH sb []*(row 3 1 (.slice A9 ML c9) ML ((matchP l).map (Value.int .i64))*(prH A' c' l*G))):=(h0.perm (by ac_rfl:_=P*(slH sb []*(row 3 1 (.slice A9 ML c9) ML ((matchP l).map (Value.int .i64))*(prH A' c' l*G))))).right
  have h2:=(h1.nil 346 11).bkNew (t:=245) (cs:=#[.slice A' n c',.pointer (some ⟨vb,0,none⟩),.slice A9 ML c9,.int .i64 0,.int .i64 0,.int .i64 0,.int .u64 0,.int .u64 0,.int .u64 0,.int .u64 0,.int .u64 0,.int .u64 0,.int .u64 0,.int .u64 0,.pointer (some ⟨sb,0,none⟩),.int .i64 0,.int .i64 0,.int .i64 fl,.slice none 0 0]) (ds:=itC (PIt.new l fuel) ⟨A',c',A9,c9,none,0,vb,sb⟩) (by
   unfold itC PIt.new;simp only[hML,hn,hfl];rfl)
  refine itH_to (D:=⟨A',c',A9,c9,none,0,vb,sb⟩) rfl ?_;rw[hG] at h2;unfold itX;unfold prH at h2 ⊢;have e1:(PIt.new l fuel).code=l:=rfl;have e2:(PIt.new l fuel).opens=[]:=rfl;have e3:(PIt.new l fuel).out=[]:=rfl;simp only[e1,e2,e3,List.flatMap_nil,List.length_nil,hML];exact h2.perm (by ac_rfl))
 have hn40:n≤40:=by omega
 have hby:n*40≤140737488355328:=by omega
 rw[hn];clear h hG hok hz0 hz1 hz2 hi0 hrun hm1 hfl hML;generalize l.flatMap insV=xs at *
 go_enter Tryz.func127,Tryz.ntmps127;go_wp2_with (first
  |(at_builtin;refine wpList_append_sat rfl _ _ 30 rfl 87 i0 _ 5 40 Tryz.underlying30 HI.o HZ0.o HZ1.o HZ2.o rfl (by decide) _ 0 _ rfl HN.o _ _ _ _ _ rfl (HRD.o _) HON.o (by unfold maxLen;omega) (by omega) ?_;intro A' c' w2 hs;have hk:=HX.o _ _ _ hs;have kb:=hk.blk;have qf:=kb.frozen;have ql:=kb.lt;have q1:=kb.cell 0;have HY:=h_ (hk.put 0 (.slice A' n c') (cs':=#[.slice A' n c']) rfl);clear hs hk kb)
  |(go_at_call 152;refine(HRUN.o _ _ _ HY.o.right).mono ?_;rintro e w3 ⟨rfl,ho⟩;have hk:=HY.o.nob ho;have kb:=hk.blk;have ql3:=kb.lt;have q3:=kb.c 0;have HY3:=h_ hk;clear hk kb ho))
 refine wp_region_any (by kernel_rfl) ?_
 try (change wpAny _ _ _ _ _ _ _ (World.drew _))
 refine tF 1 ?_ rfl ?_ (tF 4 ?_ rfl ?_ (tF 6 ?_ rfl ?_ (tF 7 ?_ rfl ?_ (tF 8 ?_ rfl ?_ ?_))));all_goals (try (
  intro w;go_simp<;>(try with_reducible rfl)))
 refine rF [0,2] ?_;refine AllReady.cons rfl (fun K hK=>?_) ?_
 ·go_simp;refine hK _ _ ?_;clear hK K;refine oF 2 rfl fun K hK=>?_
  go_simp;refine hK _ _ ?_;clear hK K;refine oF 3 rfl fun K hK=>?_
  go_simp;go_at_call 153;refine(HMA.o _ _ _ _ HY3.o.drew).mono ?_;rintro e w4 ⟨A9,c9,rfl,hs⟩;have kb:=hs.right.blk;have q4:=kb.c 0;have l4:=kb.lt;have HM:=h_ hs;clear hs kb;refine hK _ _ ?_;clear hK K;refine oF 5 rfl fun K hK=>?_
  go_simp;go_at_call 154;refine(HNEW.o _ _ HM.o).mono ?_;rintro e w5 ⟨sb,rfl,hs⟩;have kb:=hs.right.right.blk;have q5:=kb.c 0;have l5:=kb.lt;have HS:=h_ hs;clear hs kb;refine hK _ _ ?_;clear hK K;refine tF 9 ?_ rfl ?_ ?_;all_goals (try (
   intro w;go_simp<;>(try with_reducible rfl)))
  refine oF 10 rfl fun K hK=>?_
  go_simp;refine hK _ _ ?_;clear hK K;refine tF 11 ?_ rfl ?_ ?_;all_goals (try (
   intro w;go_simp<;>(try with_reducible rfl)))
  refine dF ?_;go_wp2;go_ret;exact⟨_,rfl,HFI.o _ _ _ _ _ _ _ HS.o⟩
 refine nF rfl fun K hK=>?_
 ·go_simp;refine hK _ _ ?_;clear hK K;refine rF [0,3] ?_;refine AllReady.cons rfl (fun K hK=>?_) ?_
  ·go_simp;refine hK _ _ ?_;clear hK K;refine oF 3 rfl fun K hK=>?_
   go_simp;go_at_call 153;refine(HMA.o _ _ _ _ HY3.o.drew).mono ?_;rintro e w4 ⟨A9,c9,rfl,hs⟩;have kb:=hs.right.blk;have q4:=kb.c 0;have l4:=kb.lt;have HM:=h_ hs;clear hs kb;refine hK _ _ ?_;clear hK K;refine oF 5 rfl fun K hK=>?_
   go_simp;go_at_call 154;refine(HNEW.o _ _ HM.o).mono ?_;rintro e w5 ⟨sb,rfl,hs⟩;have kb:=hs.right.right.blk;have q5:=kb.c 0;have l5:=kb.lt;have HS:=h_ hs;clear hs kb;refine hK _ _ ?_;clear hK K;refine tF 9 ?_ rfl ?_ ?_;all_goals (try (
    intro w;go_simp<;>(try with_reducible rfl)))
   refine oF 10 rfl fun K hK=>?_
   go_simp;refine hK _ _ ?_;clear hK K;refine tF 11 ?_ rfl ?_ ?_;all_goals (try (
    intro w;go_simp<;>(try with_reducible rfl)))
   refine dF ?_;go_wp2;go_ret;exact⟨_,rfl,HFI.o _ _ _ _ _ _ _ HS.o⟩
  refine nF rfl fun K hK=>?_
  ·go_simp;go_at_call 153;refine(HMA.o _ _ _ _ HY3.o.drew).mono ?_;rintro e w4 ⟨A9,c9,rfl,hs⟩;have kb:=hs.right.blk;have q4:=kb.c 0;have l4:=kb.lt;have HM:=h_ hs;clear hs kb;refine hK _ _ ?_;clear hK K;refine rF [0,5] ?_;refine AllReady.cons rfl (fun K hK=>?_) ?_
   ·go_simp;refine hK _ _ ?_;clear hK K;refine oF 5 rfl fun K hK=>?_
    go_simp;go_at_call 154;refine(HNEW.o _ _ HM.o).mono ?_;rintro e w5 ⟨sb,rfl,hs⟩;have kb:=hs.right.right.blk;have q5:=kb.c 0;have l5:=kb.lt;have HS:=h_ hs;clear hs kb;refine hK _ _ ?_;clear hK K;refine tF 9 ?_ rfl ?_ ?_;all_goals (try (
     intro w;go_simp<;>(try with_reducible rfl)))
    refine oF 10 rfl fun K hK=>?_
    go_simp;refine hK _ _ ?_;clear hK K;refine tF 11 ?_ rfl ?_ ?_;all_goals (try (
     intro w;go_simp<;>(try with_reducible rfl)))
    refine dF ?_;go_wp2;go_ret;exact⟨_,rfl,HFI.o _ _ _ _ _ _ _ HS.o⟩
   refine nF rfl fun K hK=>?_
   ·go_simp;go_at_call 154;refine(HNEW.o _ _ HM.o).mono ?_;rintro e w5 ⟨sb,rfl,hs⟩;have kb:=hs.right.right.blk;have q5:=kb.c 0;have l5:=kb.lt;have HS:=h_ hs;clear hs kb;refine hK _ _ ?_;clear hK K;refine oF 0 rfl fun K hK=>?_
    go_simp;refine hK _ _ ?_;clear hK K;refine tF 9 ?_ rfl ?_ ?_;all_goals (try (
     intro w;go_simp<;>(try with_reducible rfl)))
    refine oF 10 rfl fun K hK=>?_
    go_simp;refine hK _ _ ?_;clear hK K;refine tF 11 ?_ rfl ?_ ?_;all_goals (try (
     intro w;go_simp<;>(try with_reducible rfl)))
    refine dF ?_;go_wp2;go_ret;exact⟨_,rfl,HFI.o _ _ _ _ _ _ _ HS.o⟩
structure PSt.kept (s:PSt):Prop where
 w1:32≤s.words
 w2:s.words≤256
 s1:1≤s.stripes
 s2:s.stripes≤16
 d1:1≤s.wide
 d2:s.wide≤16
 t1:1≤s.threads
 t2:s.threads≤4
 st:s.start≤4611686018427387903
 sp:s.spins≤4
 wr:s.writes≤96
 fu:s.fuel≤400
theorem PSt.kept.fit {s:PSt}(h:s.kept):s.fit:=⟨h.s1,h.s2,h.d1,h.d2⟩
def stV (s:PSt):Value:=.agg #[.int .i64 s.words,.int .i64 s.stripes,.int .i64 s.wide,.int .i64 s.threads,.int .u64 s.start,.int .i64 s.spins,.int .i64 s.writes,.int .i64 s.fuel]
theorem held_kept (w:World)(s:PSt)(h:s.kept):Calls Tryz.prog 32 #[stV s] w fun en w'=>en=.returned (stV s)∧Only Nob w w':=by
 have:=h.w1;have:=h.w2;have:=h.s1;have:=h.s2;have:=h.d1;have:=h.d2;have:=h.t1;have:=h.t2;have:=h.st;have:=h.sp;have:=h.wr;have:=h.fu
 exact at_held w _ _ _ _ _ _ _ _ _ _ _ _ _ _ _ _ (by omega) (by omega) (by omega) (by omega) (by omega) (by omega) (by omega) (by omega)
def frC (s:PSt)(me vb db:Nat):Array Value:=#[.int .i64 me,.int .i64 s.words,.int .i64 s.stripes,.int .i64 s.wide,.int .i64 s.threads,.int .u64 s.start,.int .i64 s.spins,.int .i64 s.writes,.int .i64 s.fuel,.pointer none,.slice none 0 0,.int .i64 0,pV vb,pV db,.int .i64 0,.nilIface,.pointer none,.pointer none,.pointer none,.bool false,.int .u64 0,.int .u64 0,.int .i64 0,.int .i64 (-1),.int .i64 0,.bool false]
theorem at_fresh (ω w:World)(F:HP)(h:Sat ω w F)(s:PSt)(hs:s.kept)(me:Nat):
  Calls Tryz.prog 126 #[.int .i64 me,stV s] w fun e w'=>∃b vb db,e=.returned (.pointer (some ⟨b,0,none⟩))∧Sat ω w' (bk b 198 (frC s me vb db)*(rdH db []*(vwH vb (PVw.new s.words s.writes)*F))):=by
 have HH:=h_ (fun w1=>held_kept w1 s hs)
 have HB:Hid (Sat ω (w.alloc (.cells #[.int .i64 s.words,.int .i64 s.stripes,.int .i64 s.wide,.int .i64 s.threads,.int .u64 s.start,.int .i64 s.spins,.int .i64 s.writes,.int .i64 s.fuel] 39)) (bk w.heap.size 39 #[.int .i64 s.words,.int .i64 s.stripes,.int .i64 s.wide,.int .i64 s.threads,.int .u64 s.start,.int .i64 s.spins,.int .i64 s.writes,.int .i64 s.fuel]*F)):=h_ (h.new _ _);have HV:Hid (∀w1 P,Sat ω w1 P→Calls Tryz.prog 150 #[.int .i64 s.words,.int .i64 s.writes] w1 (RetP ω P fun b=>vwH b (PVw.new s.words s.writes))):=h_ (fun w1 P h1=>vw_new ω w1 P h1 s.words s.writes)
 have HR:Hid (∀w1 P,Sat ω w1 P→Calls Tryz.prog 151 #[.int .i64 16] w1 (RetP ω P fun b=>rdH b [])):=h_ (fun w1 P h1=>rd_new ω w1 P h1)
 unfold stV at HH ⊢;clear h hs;go_enter Tryz.func126,Tryz.ntmps126;go_wp2_with (go_at_call 32;refine(HH.o _).mono ?_;rintro e w1 ⟨rfl,ho⟩;have kh:=HB.o.nob ho;have kb:=kh.blk;have kf:=kb.frozen;have kl:=kb.lt;have m0:=kb.cell 0;have m1:=kb.cell 1;have m2:=kb.cell 2;have m3:=kb.cell 3;have m4:=kb.cell 4;have m5:=kb.cell 5;have m6:=kb.cell 6;have m7:=kb.cell 7;have HK:=h_ kh;have KB1:=h_ kb;clear ho kh kb);have HC:Hid (Sat ω ((((((((w1.setCell ⟨w.heap.size,0,none⟩ (.int .i64 s.words)).setCell ⟨w.heap.size,1,none⟩ (.int .i64 s.stripes)).setCell ⟨w.heap.size,2,none⟩ (.int .i64 s.wide)).setCell ⟨w.heap.size,3,none⟩ (.int .i64 s.threads)).setCell ⟨w.heap.size,4,none⟩ (.int .u64 s.start)).setCell ⟨w.heap.size,5,none⟩ (.int .i64 s.spins)).setCell ⟨w.heap.size,6,none⟩ (.int .i64 s.writes)).setCell ⟨w.heap.size,7,none⟩ (.int .i64 s.fuel)) (bk w.heap.size 39 #[.int .i64 s.words,.int .i64 s.stripes,.int .i64 s.wide,.int .i64 s.threads,.int .u64 s.start,.int .i64 s.spins,.int .i64 s.writes,.int .i64 s.fuel]*F)):=h_ ((((((((HK.o.put 0 _ rfl).put 1 _ rfl).put 2 _ rfl).put 3 _ rfl).put 4 _ rfl).put 5 _ rfl).put 6 _ rfl).put 7 _ rfl);clear m0 m1 m2 m3 m4 m5 m6 m7 kl kf HB HH KB1 HK;generalize ((((((((w1.setCell ⟨w.heap.size,0,none⟩ (.int .i64 s.words)).setCell ⟨w.heap.size,1,none⟩ (.int .i64 s.stripes)).setCell ⟨w.heap.size,2,none⟩ (.int .i64 s.wide)).setCell ⟨w.heap.size,3,none⟩ (.int .i64 s.threads)).setCell ⟨w.heap.size,4,none⟩ (.int .u64 s.start)).setCell ⟨w.heap.size,5,none⟩ (.int .i64 s.spins)).setCell ⟨w.heap.size,6,none⟩ (.int .i64 s.writes)).setCell ⟨w.heap.size,7,none⟩ (.int .i64 s.fuel))=wC at *
 clear w1;generalize w.heap.size=N at *
 clear w;have HS0:Blk wC.drew N 39 #[.int .i64 s.words,.int .i64 s.stripes,.int .i64 s.wide,.int .i64 s.threads,.int .u64 s.start,.int .i64 s.spins,.int .i64 s.writes,.int .i64 s.fuel]:=(HC.o.drewN 1).blk;refine wp_region_noPanic ?_;refine gH (fun w1=>Blk w1 N 39 #[.int .i64 s.words,.int .i64 s.stripes,.int .i64 s.wide,.int .i64 s.threads,.int .u64 s.start,.int .i64 s.spins,.int .i64 s.writes,.int .i64 s.fuel]) HS0 fun hh0=>?_
 refine tH 0 ?_ rfl ?_ (tH 1 ?_ rfl ?_ (tH 2 ?_ rfl ?_ (tH 3 ?_ rfl ?_ (tH 4 ?_ rfl ?_ (tH 5 ?_ rfl ?_ (tH 6 ?_ rfl ?_ ?_))))));all_goals (try (
  intro w hSw;have kf:=hSw.frozen;have kl:=hSw.lt;have m0:=hSw.cell 0;have m1:=hSw.cell 1;have m2:=hSw.cell 2;have m3:=hSw.cell 3;have m4:=hSw.cell 4;have m5:=hSw.cell 5;have m6:=hSw.cell 6;have m7:=hSw.cell 7;try simp only[Act.put,sA,sB,sC]
  go_simp<;>(try with_reducible rfl)))
 try simp only[Act.put,sA,sB,sC]
 refine oH 7 rfl fun K hK=>?_
 go_simp;go_at_call 150;refine(HV.o _ _ (HC.o.drewN _)).mono ?_;rintro e wA ⟨vb,rfl,hs⟩;have HX:=h_ hs;clear hs;first|(refine hK.q ?_ fun hh1=>?_)|(go_wp2_with fail;refine hK.q ?_ fun hh1=>?_)
 ·exact HX.o.right.blk
 clear hK K hh0;try simp only[Act.put,sA,sB,sC]
 refine oH 8 rfl fun K hK=>?_
 go_simp;go_at_call 151;refine(HR.o _ _ HX.o).mono ?_;rintro e wB ⟨db,rfl,hs⟩;have HY:=h_ hs;clear hs;first|(refine hK.q ?_ fun hh2=>?_)|(go_wp2_with fail;refine hK.q ?_ fun hh2=>?_)
 ·exact HY.o.right.right.blk
 clear hK K hh1;try simp only[Act.put,sA,sB,sC]
 refine tH 9 ?_ rfl ?_ ?_;all_goals (try (
  intro w hSw;have kf:=hSw.frozen;have kl:=hSw.lt;have m0:=hSw.cell 0;have m1:=hSw.cell 1;have m2:=hSw.cell 2;have m3:=hSw.cell 3;have m4:=hSw.cell 4;have m5:=hSw.cell 5;have m6:=hSw.cell 6;have m7:=hSw.cell 7;go_simp<;>(try with_reducible rfl)))
 try simp only[Act.put,sA,sB,sC]
 refine oH 10 rfl fun K hK=>?_
 go_simp;have HQ:=h_ (HY.o.new (frC s me vb db) 198);first|(refine hK.q ?_ fun hh3=>?_)|(go_wp2_with fail;refine hK.q ?_ fun hh3=>?_)
 ·exact HQ.o.right.right.right.blk
 clear hK K hh2;try simp only[Act.put,sA,sB,sC]
 refine tH 11 ?_ rfl ?_ ?_;all_goals (try (
  intro w hSw;have kf:=hSw.frozen;have kl:=hSw.lt;have m0:=hSw.cell 0;have m1:=hSw.cell 1;have m2:=hSw.cell 2;have m3:=hSw.cell 3;have m4:=hSw.cell 4;have m5:=hSw.cell 5;have m6:=hSw.cell 6;have m7:=hSw.cell 7;go_simp<;>(try with_reducible rfl)))
 try simp only[Act.put,sA,sB,sC]
 refine dH (NoPanic.normal ?_);go_wp2;go_ret;refine⟨_,rfl,vb,db,?_⟩;have hq:=HQ.o;exact(hq.perm (Q:=bk N 39 _*(bk _ 198 _*(rdH db []*(vwH vb (PVw.new s.words s.writes)*F)))) (by ac_rfl)).right
end Go.Proofs.YtfodmgaliclhfaaGreatDoor
