/- Lemmas. -/
import Derived.Test.YtfodmgaliclhfaaGreatDoorGInts
import Derived.Test.YtfodmgaliclhfaaGreatDoorGAtNext
namespace Go.Proofs.YtfodmgaliclhfaaGreatDoor
set_option linter.unusedVariables false
set_option linter.unusedSimpArgs false
set_option maxRecDepth 100000
set_option maxHeartbeats 8000000
open Go.RowKit Go.Proofs.Tryz Iq Jq
def RegionsPost (w:World)(l:List PIns)(e:Ending)(w':World):Prop :=
 ∃g,e=.returned (.slice (some ⟨g,0,none⟩) l.length l.length)∧w.heap.size≤g∧IntBlk w' g (regionsP l)∧Only Nob w w'
theorem Ol (l:List PIns)(k:Nat):stk l (k+1)=behindP (stk l k) k (opOf l k):=rfl
theorem GY {l:List PIns}{k G base:Nat}{w0 wr w1 w2:World}{o:Obj}(hb0:Below (G) w0 wr)(hG:G<base)(hsz:base≤wr.heap.size)
  (hi:IntBlk wr G (regs l k)) (hw1:w1=(wr.setCell (κ G k) (.int .i64 (topP (stk l k)))).alloc o) (hb:Below base w1 w2):
  IntBlk w2 G (regs l (k+1))∧Below G w0 w2∧base≤w2.heap.size:=by
 have h1:Below G wr w1:=by
  subst hw1;exact((Below.refl _ _).setCell (p:=⟨G,k,none⟩) (show G≤G from Nat.le_refl _) _).alloc (by simp[World.setCell];omega) o
 have hs1:base≤w1.heap.size:=by subst hw1;simp[World.setCell];omega
 refine⟨?_,hb0.trans (h1.trans (hb.mono (by omega))),Nat.le_trans hs1 hb.size⟩
 have h2:IntBlk w1 G (regs l (k+1)):=by
  subst hw1;rw[←Mm];exact(hi.set_ k _).alloc o
 exact h2.below hb hG
theorem Df (B:Nat)(w:World)(A:Option Addr)(cap:Nat)(l:List PIns)(hp:ProgIn w B A l)(hB:B≤w.heap.size)(hn:l.length≤1000)(hf:fine l l.length):
  Calls prog 180 #[.agg #[.slice A l.length cap]] w (RegionsPost w l):=by
 have hmk:=fun w=>run_make_row' (P:=prog) 50 3 (.int .i64 0) 8 underlying50 ED rfl .i64 .i64 l.length (by omega) (by omega) w
 have HP:=h_ hp;have HF:=h_ hf;have HQ:Hid (∀w',IntBlk w' (w.heap.size+1) (regionsP l)→Below (w.heap.size+1) (w.alloc (.cells #[.slice A l.length cap] 32)) w'→RegionsPost w l (.returned (.slice (some ⟨w.heap.size+1,0,none⟩) l.length l.length)) w'):=by
  intro w' h1 h2;refine⟨_,rfl,by omega,h1,?_⟩
  exact Only.trans (Only.alloc (Only.refl _ _) _) (Only.of_new (by simpa using h2))
 have h0:IntBlk ((w.alloc (.cells #[.slice A l.length cap] 32)).alloc (.cells (madeCells #[ι 0] l.length) 3)) (w.heap.size+1) (regs l 0):=by
  rw[Ml];simpa using IntBlk.made (w.alloc (.cells #[.slice A l.length cap] 32)) l.length
 have H0:=h_ h0;go_enter func180,ntmps180;go_wp2;go_loopw [4,14] (fun v c wr=>∃k:Nat,k≤l.length∧c=.int .i64 k∧Stack wr (w.heap.size+2) v (stk l k)∧IntBlk wr (w.heap.size+1) (regs l k)∧Below (w.heap.size+1) (w.alloc (.cells #[.slice A l.length cap] 32)) wr∧w.heap.size+2≤wr.heap.size)
  (fun _ c _=>l.length-(intOf c).toNat)
 case atStart=>exact⟨0,by omega,rfl,Stack.nil _ _,H0.o,Below.alloc (Below.refl _ _) (by simp) _,by simp⟩
 case round =>
  obtain⟨k,hk,rfl,hst,hib,hbel,hsz⟩:=hrel;by_cases hlt:k<l.length
  ·have hpr:ProgIn wr B A l:=(HP.o.alloc hB _).keep (hbel.mono (by omega))
   obtain⟨b,o,rfl,hlb,hi⟩:=hpr.at_ hlt;obtain⟨i0,i1,i2,i3,i4⟩:=hi;have hop:(l.getD k PIns.none).op=opOf l k:=rfl;have hblt:b<wr.heap.size:=by omega
   have hbne:b≠wr.heap.size:=by omega
   have hGlt:w.heap.size+1<wr.heap.size:=by omega
   have hGne:w.heap.size+1≠wr.heap.size:=by omega
   have hc:=hib.cellD 0 (k:=k) (by rw[Oz];exact hlt)
   have hcf:=hib.frozen k;have HS:=h_ hst;have HI:=h_ hib;have HB:=h_ hbel;have hl5:(stk l k).length≤5:=LW (fun j hj=>HF.o j (by omega))
   have hne:0<endsI (opOf l k)→stk l k≠[]:=fun h=>Cz (HF.o k hlt) (Or.inl h)
   have HNE:=h_ hne;have hkI:(k:Int)<(l.length:Int):=by omega
   rw[hop] at i0;generalize (l.getD k PIns.none).a=xa at *
   generalize (l.getD k PIns.none).b=xb at *
   generalize (l.getD k PIns.none).c=xc at *
   generalize (l.getD k PIns.none).n=xn at *
   generalize (regs l k).getD k 0=old at *
   go_wp2_with (first
    |(go_at_call 178;refine(Es (w.heap.size+2) _ (stk l k) _ (HS.o.alloc _) (by omega)).mono ?_;rintro e w1 ⟨rfl,rfl⟩)
    |(go_at_call 177;refine(FI (w.heap.size+2) _ (stk l k) _ _ _ ((HS.o.far (p:=⟨w.heap.size+1,k,none⟩) (Nat.lt_succ_self _) _).alloc _) (by omega) (by simp[World.setCell];omega) HNE.o).mono ?_;rintro e w2 ⟨v',rfl,hst2,hb2⟩))
   go_roundw
   case rel =>
    obtain⟨q1,q2,q3⟩:=GY HB.o (by omega) hsz HI.o rfl hb2
    exact⟨k+1,by omega,by go_num,hst2,q1,q2,q3⟩
   case measure=>simp[intOf];omega
  ·obtain rfl:k=l.length:=by omega
   have HI:=h_ hib;have HB:=h_ hbel;go_wp2;go_ret;exact HQ.o _ (by rw[←Mn];exact HI.o) HB.o
def pair (p:Int×Int):Value:=.tuple #[.int .i64 p.1,.int .i64 p.2]
theorem Bw {l:List PIns}{k:Nat}(h:firstBad (jumpBad l) l.length 0=some k):jumpsP l=((k:Int),2):=by unfold jumpsP;rw[h]
theorem IW {l:List PIns}(h:firstBad (jumpBad l) l.length 0=none):jumpsP l=(0,0):=by unfold jumpsP;rw[h]
theorem KV (B g:Nat)(w:World)(A:Option Addr)(cap:Nat)(l:List PIns)(hp:ProgIn w B A l)(hB:B≤w.heap.size)(hn:l.length≤1000)(hc0:∀k,k<l.length→jumpsB (opOf l k)=true→0≤(l.getD k PIns.none).c)
  (ha:IntBlk w g (regionsP l)):
  Calls prog 179 #[.agg #[.slice A l.length cap],.slice (some ⟨g,0,none⟩) l.length l.length] w fun e w'=>e=.returned (pair (jumpsP l))∧Only Nob w w':=by
 have HP:=h_ hp;have HA:=h_ ha;have HC:=h_ hc0;have hg:g<w.heap.size:=ha.lt;have HQ:Hid (∀w',Below (w.heap.size+1) (w.alloc (.cells #[.slice A l.length cap] 32)) w'→Only Nob w w'):=fun w' h1=>Only.trans (Only.alloc (Only.refl _ _) _) (Only.of_new (by simpa using h1))
 clear hp ha hc0;go_enter func179,ntmps179;go_wp2;go_loopw [11] (fun c wr=>∃k:Nat,k≤l.length∧c=.int .i64 k∧Hid (firstBad (jumpBad l) (l.length-k) k=firstBad (jumpBad l) l.length 0)∧Below (w.heap.size+1) (w.alloc (.cells #[.slice A l.length cap] 32)) wr)
  (fun c _=>l.length-(intOf c).toNat)
 case atStart=>exact⟨0,by omega,rfl,rfl,Below.refl _ _⟩
 case round =>
  obtain⟨k,hk,rfl,hfb,hbel⟩:=hrel;have hsz:w.heap.size+1≤wr.heap.size:=by have:=hbel.size;simpa using this
  have hp0:wr.cell? w.heap.size=some (.slice A l.length cap):=(hbel.cell (p:=⟨w.heap.size,0,none⟩) (Nat.lt_succ_self _)).trans (cell_one_new _ _ _ 0 _ rfl);have hpf:wr.frozen? (κ w.heap.size 0)=false:=(hbel.frozen (p:=⟨w.heap.size,0,none⟩) (Nat.lt_succ_self _)).trans ((Blk.new w 32 #[.slice A l.length cap]).frozen 0);have hwlt:w.heap.size<wr.heap.size:=by omega
  by_cases hlt:k<l.length
  ·have hpr:ProgIn wr B A l:=(HP.o.alloc hB _).keep (hbel.mono (by omega))
   have har:IntBlk wr g (regionsP l):=(HA.o.alloc _).below hbel (by omega)
   obtain⟨b,o,rfl,hlb,hi⟩:=hpr.at_ hlt;obtain⟨i0,i1,i2,i3,i4⟩:=hi;have hop:(l.getD k PIns.none).op=opOf l k:=rfl;have hblt:b<wr.heap.size:=by omega
   have hglt:g<wr.heap.size:=by omega
   have hgk:=har.cell (Ax hlt);have hcc:=HC.o k hlt;have hkI:(k:Int)<(l.length:Int):=by omega
   have hstep:=CQ (f:=jumpBad l) hlt;have HB:=h_ hbel;have hjb:jumpBad l k=(jumpsB (opOf l k)&&(decide ((l.length:Int)<(l.getD k PIns.none).c)||(decide ((l.getD k PIns.none).c=l.length)&&(regAt l k != -1)) ||
    (decide ((l.getD k PIns.none).c<l.length)&&(regAt l (l.getD k PIns.none).c.toNat != regAt l k)))):=rfl
   rw[hop] at i0;clear hop hbel hpr;generalize (l.getD k PIns.none).a=xa at *
   generalize (l.getD k PIns.none).b=xb at *
   generalize (l.getD k PIns.none).c=xc at *
   generalize (l.getD k PIns.none).n=xn at *
   generalize opOf l k=op at *
   cases hj:jumpsB op
   ·have hnb:jumpBad l k=false:=by rw[hjb,hj];rfl
    have HN:Hid (firstBad (jumpBad l) (l.length-(k+1)) (k+1)=firstBad (jumpBad l) l.length 0):=by
     have:=hfb.out
     rw[hstep,hnb] at this;exact this
    clear hjb hnb hstep hcc har hfb;go_wp2_with (go_at_call 210;refine(BH _ _).mono ?_;rintro e w1 ⟨rfl,rfl⟩);go_roundw
    case rel=>exact⟨k+1,by omega,by go_num,HN,HB.o.alloc hsz _⟩
    case measure=>simp[intOf];omega
   ·obtain⟨c,rfl⟩:=Int.eq_ofNat_of_zero_le (hcc hj);clear hcc;rcases(by omega:l.length<c∨c=l.length∨c<l.length) with h1|h1|h1
    ·have hnb:jumpBad l k=true:=by rw[hjb,hj];simp;omega
     have HZ:Hid (jumpsP l=((k:Int),2)):=Bw (by have:=hfb.out;rw[hstep,hnb] at this;exact this.symm)
     clear hjb hnb hstep hfb;have d1:decide ((l.length:Int)<(c:Int))=true:=by simp;omega
     go_wp2_with (go_at_call 210;refine(BH _ _).mono ?_;rintro e w1 ⟨rfl,rfl⟩);go_quiet (fail);go_wp2;go_ret2;exact⟨by rw[HZ.o];rfl,HQ.o _ (BA (HB.o.alloc hsz _) _)⟩
    ·cases h2:(regAt l k != -1)
     ·have hnb:jumpBad l k=false:=by rw[hjb,hj];rw[h2];simp;omega
      have HN:Hid (firstBad (jumpBad l) (l.length-(k+1)) (k+1)=firstBad (jumpBad l) l.length 0):=by
       have:=hfb.out
       rw[hstep,hnb] at this;exact this
      clear hjb hnb hstep hfb;have d1:decide ((l.length:Int)<(c:Int))=false:=by simp;omega
      have d2:((c:Int)==(l.length:Int))=true:=by simp;omega
      have d4:decide ((c:Int)<(l.length:Int))=false:=by simp;omega
      go_wp2_with (go_at_call 210;refine(BH _ _).mono ?_;rintro e w1 ⟨rfl,rfl⟩);go_quiet (fail);go_wp2;go_roundw
      case rel=>exact⟨k+1,by omega,by go_num,HN,BA (HB.o.alloc hsz _) _⟩
      case measure=>simp[intOf];omega
     ·have hnb:jumpBad l k=true:=by rw[hjb,hj];rw[h2];simp;omega
      have HZ:Hid (jumpsP l=((k:Int),2)):=Bw (by have:=hfb.out;rw[hstep,hnb] at this;exact this.symm)
      clear hjb hnb hstep hfb;have d1:decide ((l.length:Int)<(c:Int))=false:=by simp;omega
      have d2:((c:Int)==(l.length:Int))=true:=by simp;omega
      have d4:decide ((c:Int)<(l.length:Int))=false:=by simp;omega
      go_wp2_with (go_at_call 210;refine(BH _ _).mono ?_;rintro e w1 ⟨rfl,rfl⟩);go_quiet (fail);go_wp2;go_ret2;exact⟨by rw[HZ.o];rfl,HQ.o _ (BA (HB.o.alloc hsz _) _)⟩
    ·cases h2:(regAt l (c:Int).toNat != regAt l k)
     ·have hnb:jumpBad l k=false:=by rw[hjb,hj];rw[h2];simp;omega
      have HN:Hid (firstBad (jumpBad l) (l.length-(k+1)) (k+1)=firstBad (jumpBad l) l.length 0):=by
       have:=hfb.out
       rw[hstep,hnb] at this;exact this
      clear hjb hnb hstep hfb;have d1:decide ((l.length:Int)<(c:Int))=false:=by simp;omega
      have d2:((c:Int)==(l.length:Int))=false:=by simp;omega
      have d4:decide ((c:Int)<(l.length:Int))=true:=by simp;omega
      have e1:decide (l.length<c)=false:=by simp;omega
      have e2:(c==l.length)=false:=by simp;omega
      have e3:¬(l.length<c):=by omega
      have e4:decide (c<l.length)=true:=by simp;omega
      have hcI:(c:Int)<(l.length:Int):=by omega
      have hgc:=har.cell (Ax h1);rw[Int.toNat_natCast] at h2;go_wp2_with (go_at_call 210;refine(BH _ _).mono ?_;rintro e w1 ⟨rfl,rfl⟩);go_quiet (fail);go_wp2;go_roundw
      case rel=>exact⟨k+1,by omega,by go_num,HN,BA (HB.o.alloc hsz _) _⟩
      case measure=>simp[intOf];omega
     ·have hnb:jumpBad l k=true:=by rw[hjb,hj];rw[h2];simp;omega
      have HZ:Hid (jumpsP l=((k:Int),2)):=Bw (by have:=hfb.out;rw[hstep,hnb] at this;exact this.symm)
      clear hjb hnb hstep hfb;have d1:decide ((l.length:Int)<(c:Int))=false:=by simp;omega
      have d2:((c:Int)==(l.length:Int))=false:=by simp;omega
      have d4:decide ((c:Int)<(l.length:Int))=true:=by simp;omega
      have e1:decide (l.length<c)=false:=by simp;omega
      have e2:(c==l.length)=false:=by simp;omega
      have e3:¬(l.length<c):=by omega
      have e4:decide (c<l.length)=true:=by simp;omega
      have hcI:(c:Int)<(l.length:Int):=by omega
      have hgc:=har.cell (Ax h1);rw[Int.toNat_natCast] at h2;go_wp2_with (go_at_call 210;refine(BH _ _).mono ?_;rintro e w1 ⟨rfl,rfl⟩);go_quiet (fail);go_wp2;go_ret2;exact⟨by rw[HZ.o];rfl,HQ.o _ (BA (HB.o.alloc hsz _) _)⟩
  ·obtain rfl:k=l.length:=by omega
   have hz:firstBad (jumpBad l) l.length 0=none:=by
    rw[←hfb.out,Nat.sub_self];rfl
   have HZ:=h_ (IW hz);have HB:=h_ hbel;clear hfb hz hbel;go_wp2;go_ret2;exact⟨by rw[HZ.o];rfl,HQ.o _ HB.o⟩
theorem Mi {l:List PIns}(h:sizeBad l=true):runP l=(0,4):=by unfold runP;rw[if_pos h]
theorem Ow {l:List PIns}{k:Nat}(h:sizeBad l=false)(h2:firstBad (badB l) l.length 0=some k):runP l=((k:Int),errAt l k):=by
 unfold runP;rw[if_neg (by simp[h]),h2]
theorem Mj {l:List PIns}{t:Int}{r:List Int}(h:sizeBad l=false)(h2:firstBad (badB l) l.length 0=none)(h3:stk l l.length=t::r):runP l=(t,12):=by
 unfold runP;rw[if_neg (by simp[h]),h2]
 simp only;rw[h3]
theorem Jm {l:List PIns}(h:sizeBad l=false)(h2:firstBad (badB l) l.length 0=none)(h3:stk l l.length=[]):runP l=jumpsP l:=by
 unfold runP;rw[if_neg (by simp[h]),h2]
 simp only;rw[h3]
theorem Tl {x:PIns}(h:mayP x=true):0≤x.c:=by
 unfold mayP mayB at h;simp only[Bool.and_eq_true] at h
 have:=h.1.2
 simp[fitsB] at this;omega
theorem SZ {l:List PIns}(h:fine l l.length):∀k,k<l.length→jumpsB (opOf l k)=true→0≤(l.getD k PIns.none).c:=fun k hk _=>Tl (FB (h k hk)).1
def RunPost (w:World)(l:List PIns)(e:Ending)(w':World):Prop:=e=.returned (pair (runP l))∧Only Nob w w'
theorem Mh (w:World)(A:Option Addr)(cap:Nat)(l:List PIns)(h:sizeBad l=true)(hn:l.length≤1000):
  Calls prog 152 #[.agg #[.slice A l.length cap]] w (RunPost w l):=by
 have HQ:Hid (∀w',Only Nob w w'→RunPost w l (.returned (pair (0,4))) w'):=fun w' h1=>⟨by rw[Mi h],h1⟩
 have h2:l.length=0∨40<l.length:=by simpa [sizeBad] using h
 clear h;generalize l.length=n at *
 rcases h2 with h2|h2
 ·subst h2;go_enter func152,ntmps152;go_wp2;go_ret2;exact HQ.o _ (Only.alloc (Only.refl _ _) _)
 ·have d1:((n:Int)==0)=false:=by simp;omega
  have d3:(n==0)=false:=by simp;omega
  have d2:decide ((40:Int)<n)=true:=by simp;omega
  go_enter func152,ntmps152;go_wp2;go_ret2;exact HQ.o _ (Only.alloc (Only.refl _ _) _)
theorem NM (B g:Nat)(w:World)(A:Option Addr)(cap:Nat)(l:List PIns)(hp:ProgIn w B A l)(hB:B≤w.heap.size)(hn:l.length≤1000)(hc0:∀k,k<l.length→jumpsB (opOf l k)=true→0≤(l.getD k PIns.none).c)
  (ha:IntBlk w g (regionsP l)):
  Calls prog 179 #[.agg #[.slice A l.length cap],.slice (some ⟨g,0,none⟩) l.length l.length] w fun e w'=>e=.returned (.tuple #[.int .i64 (jumpsP l).1,.int .i64 (jumpsP l).2])∧Only Nob w w' :=
 KV B g w A cap l hp hB hn hc0 ha
theorem Rr (B:Nat)(w:World)(A:Option Addr)(cap:Nat)(l:List PIns)(hp:ProgIn w B A l)(hB:B≤w.heap.size)(hs:sizeBad l=false):
  Calls prog 152 #[.agg #[.slice A l.length cap]] w (RunPost w l):=by
 have h2:l.length≠0∧l.length≤40:=by
  have:¬(l.length=0∨40<l.length):=by
   intro h
   have:sizeBad l=true:=by simpa [sizeBad] using h
   rw[this] at hs;cases hs
  omega
 obtain⟨hn0,hn⟩:=h2;have d1:((l.length:Int)==0)=false:=by rw[beq_eq_false_iff_ne];omega
 have d3:(l.length==0)=false:=by rw[beq_eq_false_iff_ne];omega
 have d2:decide ((40:Int)<l.length)=false:=by simp;omega
 have d4:decide (40<l.length)=false:=by simp;omega
 have HP:=h_ hp;have HSB:=h_ hs;have HQ:Hid (∀w',Below (w.heap.size+1) (w.alloc (.cells #[.slice A l.length cap] 32)) w'→Only Nob w w'):=fun w' h1=>Only.trans (Only.alloc (Only.refl _ _) _) (Only.of_new (by simpa using h1))
 clear hp hs;go_enter func152,ntmps152;go_wp2;go_loopw [4,21] (fun v c wr=>∃k:Nat,k≤l.length∧c=.int .i64 k∧Hid (fine l k)∧Hid (firstBad (badB l) (l.length-k) k=firstBad (badB l) l.length 0)∧Stack wr (w.heap.size+1) v (stk l k) ∧
   Below (w.heap.size+1) (w.alloc (.cells #[.slice A l.length cap] 32)) wr)
  (fun _ c _=>l.length-(intOf c).toNat)
 case atStart=>exact⟨0,by omega,rfl,(fun j hj=>absurd hj (by omega)),rfl,Stack.nil _ _,Below.refl _ _⟩
 case round =>
  obtain⟨k,hk,rfl,hfine,hfb,hst,hbel⟩:=hrel;have hsz:w.heap.size+1≤wr.heap.size:=by have:=hbel.size;simpa using this
  have hp0:wr.cell? w.heap.size=some (.slice A l.length cap):=(hbel.cell (p:=⟨w.heap.size,0,none⟩) (Nat.lt_succ_self _)).trans (cell_one_new _ _ _ 0 _ rfl);have hpf:wr.frozen? (κ w.heap.size 0)=false:=(hbel.frozen (p:=⟨w.heap.size,0,none⟩) (Nat.lt_succ_self _)).trans ((Blk.new w 32 #[.slice A l.length cap]).frozen 0);have hwlt:w.heap.size<wr.heap.size:=by omega
  have KP:=h_ ((Blk.new w 32 #[.slice A l.length cap]).below hbel (Nat.lt_succ_self _));have hpr:ProgIn wr B A l:=(HP.o.alloc hB _).keep (hbel.mono (by omega))
  have hl5:(stk l k).length≤5:=LW hfine.out;have HPR:=h_ hpr;have HS:=h_ hst;have HB:=h_ hbel;clear hst hbel;by_cases hlt:k<l.length
  ·obtain⟨b,o,rfl,hlb,hi⟩:=hpr.at_ hlt;have hstep:=h_ (CQ (f:=badB l) hlt);have hop:(l.getD k PIns.none).op=opOf l k:=rfl;have herr:errAt l k=wrongP l (stk l k) (l.getD k PIns.none):=rfl;have hlts:∀t∈stk l k,0≤t∧t<(l.length:Int):=fun t ht=>by have:=Om l k t ht;omega
   have HLT:=h_ hlts;generalize l.getD k PIns.none=x at *
   obtain⟨i0,i1,i2,i3,i4⟩:=hi;have HE:=h_ herr;have HO:=h_ hop;have hblt:b<wr.heap.size:=by omega
   have hkI:(k:Int)<(l.length:Int):=by omega
   have H5:=h_ hl5;clear herr hop hlts hpr hl5;by_cases hw0:wrongP l (stk l k) x=0
   ·have hnb:badB l k=false:=by simp[badB,HE.o,hw0]
    have HN:Hid (firstBad (badB l) (l.length-(k+1)) (k+1)=firstBad (badB l) l.length 0):=by
     have:=hfb.out
     rw[hstep.out,hnb] at this;exact this
    have HF:Hid (fine l (k+1)):=fun j hj=>by
     rcases Nat.lt_or_ge j k with h1|h1
     ·exact hfine.out j h1
     ·obtain rfl:j=k:=by omega
      rw[HE.o];exact hw0
    have HNE:Hid (0<endsI x.op→stk l k≠[]):=fun h=>Cz hw0 (Or.inl h)
    clear hnb;go_wp2_with (first
     |(go_at_call 176;refine(Fe (w.heap.size+1) B _ (stk l k) x _ _ cap l (HS.o.alloc _) (Nat.lt_of_le_of_lt H5.o (by decide)) (HPR.o.alloc (by omega) _) (by simp;omega) (by omega) HLT.o).mono ?_;rintro e w2 ⟨rfl,ho2⟩;have kx:=(Blk.new wr 87 x).only ho2 (fun h=>h);have kx0:=kx.five.1;have kxf:=kx.frozen;have hs2:wr.heap.size<w2.heap.size:=Nat.lt_of_lt_of_le (by simp) ho2.size)
     |(go_at_call 177;refine(FI (w.heap.size+1) _ (stk l k) _ _ _ ((HS.o.alloc _).only ho2) (Nat.lt_of_le_of_lt H5.o (by decide)) (by omega) HNE.o).mono ?_;rintro e w3 ⟨v',rfl,hst3,hb3⟩))
    go_roundw
    case rel =>
     refine⟨k+1,by omega,by go_num,HF,HN,?_,?_⟩
     ·rw[Ol,←HO.o];exact hst3
     ·exact(HB.o.alloc hsz _).trans ((AJ ho2 (by simp;omega)).trans hb3)
    case measure=>simp[intOf];omega
   ·have hnb:badB l k=true:=by simp[badB,HE.o,hw0]
    have hz:firstBad (badB l) l.length 0=some k:=by
     have:=hfb.out
     rw[hstep.out,hnb] at this;exact this.symm
    have HZ:=h_ (Ow HSB.o hz);have hw1:(wrongP l (stk l k) x != 0)=true:=by simpa using hw0
    have HR:Hid (∀w',Only Nob w w'→RunPost w l (.returned (.tuple #[k,ι (wrongP l (stk l k) x)])) w'):=fun w' h1=>⟨by rw[HZ.o,HE.o];rfl,h1⟩
    clear hw0 hnb hz;go_wp2_with (go_at_call 176;refine(Fe (w.heap.size+1) B _ (stk l k) x _ _ cap l (HS.o.alloc _) (Nat.lt_of_le_of_lt H5.o (by decide)) (HPR.o.alloc (by omega) _) (by simp;omega) (by omega) HLT.o).mono ?_;rintro e w2 ⟨rfl,ho2⟩)
    go_ret2;exact HR.o _ (HQ.o _ ((HB.o.alloc hsz _).trans (AJ ho2 (by simp;omega))))
  ·obtain rfl:k=l.length:=by omega
   have hz:firstBad (badB l) l.length 0=none:=by
    rw[←hfb.out,Nat.sub_self];rfl
   have HF:=hfine;have HBW:Hid (B≤wr.drew.heap.size):=by show B≤wr.heap.size;omega
   have hn1000:l.length≤1000:=by omega
   cases hk:stk l l.length with
   |nil =>
    have HZ:=h_ (Jm HSB.o hz hk);have hsn:Stack wr (w.heap.size+1) u4 []:=by rw[←hk];exact HS.o
    clear hpr HS hl5 hk hfb;rcases hsn.form with⟨_,hv⟩|⟨gq,capq,hv,_,_,_,_⟩
    all_goals
     subst hv;clear hsn;try simp only[List.length_nil]
     go_wp2_with fail;go_region_with (first
      |(go_at_call 180;refine(Df B _ _ cap l HPR.o.drew (by simp;omega) (by omega) HF.o).mono ?_;rintro e w2 ⟨g,rfl,hg,hib,ho2⟩;have k2:=KP.out.drew.only ho2 (fun h=>h);have k20:=k2.one;have k2f:=k2.frozen)
      |(go_at_call 179;refine(NM B g _ _ cap l (HPR.o.drew.keep (AJ ho2 HBW.o)) (Nat.le_trans HBW.o ho2.size) hn1000 (SZ HF.o) hib).mono ?_;rintro e w3 ⟨rfl,ho3⟩))
     all_goals
      go_wp2;go_ret2;exact⟨by rw[HZ.o];rfl,Only.trans (Only.trans (Only.drew (HQ.o _ HB.o)) ho2) ho3⟩
   |cons t r =>
    have HZ:=h_ (Mj HSB.o hz hk);have hst:Stack wr (w.heap.size+1) u4 (t::r):=by rw[←hk];exact HS.o
    rcases hst.form with⟨h0,_⟩|⟨gq,capq,hv,_,_,_,_⟩
    ·cases h0
    ·subst hv;rw[hk] at hl5;have hrl:r.length<5:=by simp at hl5;omega
     have HST:=h_ hst;clear hst hpr HS hl5 hk hfb;simp only[List.length_cons] at HST ⊢;generalize hlen:r.length=m at *
     have hlen':=h_ hlen;clear hlen;go_wp2_with (go_at_call 178;refine(Dl (w.heap.size+1) _ t r _ HST.o (by simp[hlen'.out];omega)).mono ?_;rintro e w2 ⟨rfl,rfl⟩)
     go_ret2;exact⟨by rw[HZ.o];rfl,HQ.o _ HB.o⟩
theorem GX (B:Nat)(w:World)(A:Option Addr)(cap:Nat)(l:List PIns)(hp:ProgIn w B A l)(hB:B≤w.heap.size)(hn:l.length≤1000):
  Calls prog 152 #[.agg #[.slice A l.length cap]] w fun e w'=>e=.returned (.tuple #[.int .i64 (runP l).1,.int .i64 (runP l).2])∧Only Nob w w':=by
 cases hs:sizeBad l
 ·exact Rr B w A cap l hp hB hs
 ·exact Mh w A cap l hs hn
def fillM (n k:Nat):List Int:=List.replicate k (-1)++List.replicate (n-k) 0
theorem Ke (n:Nat):fillM n 0=List.replicate n 0:=by simp[fillM]
theorem Kg (n:Nat):fillM n n=List.replicate n (-1):=by simp[fillM]
theorem Nj {n k:Nat}(h:k≤n):(fillM n k).length=n:=by simp[fillM];omega
theorem Kf {n k:Nat}(h:k<n):(fillM n k).set k (-1)=fillM n (k+1):=by
 unfold fillM;rw[List.set_append_right _ _ (by simp)]
 obtain⟨m,hm⟩:∃m,n-k=m+1:=⟨n-k-1,by omega⟩
 rw[hm,show n-(k+1)=m by omega]
 rw[List.length_replicate,Nat.sub_self,List.replicate_succ,List.set_cons_zero,List.replicate_succ' (n:=k),List.append_assoc];rfl
theorem FW {l:List PIns}{k:Nat}(h:0<endsI (opOf l k)):endA l (k+1)=(endA l k).set (regAt l k).toNat k:=if_pos h
theorem Gp {l:List PIns}{k:Nat}(h:¬0<endsI (opOf l k)):endA l (k+1)=endA l k:=if_neg h
theorem FV {l:List PIns}{k:Nat}(h:opOf l k=16):endB l (k+1)=(endB l k).set k ((endB l k).getD (regAt l k).toNat 0):=if_pos h
theorem Gn {l:List PIns}{k:Nat}(h:opOf l k≠16):endB l (k+1)=endB l k:=if_neg h
def IntsNew (w0 w:World)(v:Value)(l:List Int):Prop:=(l=[]∧v=.slice none 0 0)∨∃g,v=.slice (some ⟨g,0,none⟩) l.length l.length∧w0.heap.size≤g∧IntBlk w g l
def NewPost (w:World)(l:List Int)(e:Ending)(w':World):Prop:=∃v,e=.returned v∧IntsNew w w' v l∧Only Nob w w'
theorem NC (B:Nat)(w:World)(A:Option Addr)(cap:Nat)(l:List PIns)(hp:ProgIn w B A l)(hB:B≤w.heap.size)(hn:l.length≤1000):
  Calls prog 153 #[.agg #[.slice A l.length cap]] w (NewPost w (matchP l)):=by
 have HP:=h_ hp;have KP:=h_ (Blk.new w 32 #[.slice A l.length cap]);have HB1:Hid (B≤(w.alloc (.cells #[.slice A l.length cap] 32)).heap.size):=by unfold Hid;simp;omega
 cases hok:okP l
 ·have h2:((runP l).2 != 0)=true:=by unfold okP at hok;simpa using hok
  have HQ:Hid (∀w',Only Nob w w'→NewPost w (matchP l) (.returned (.slice none 0 0)) w'):=fun w' h=>⟨_,rfl,.inl ⟨by simp[matchP,hok],rfl⟩,h⟩
  go_enter func153,ntmps153;go_wp2_with (go_at_call 152;refine(GX B _ _ cap l (HP.o.alloc hB _) HB1.o hn).mono ?_;rintro e w2 ⟨rfl,ho2⟩);go_ret;exact HQ.o _ (Only.trans (Only.alloc (Only.refl _ _) _) ho2)
 ·obtain⟨_,hf,_,_,hr⟩:=Rs hok;have HF:=h_ hf;have h2:(runP l).2=0:=by rw[hr]
  have h1:(runP l).1=0:=by rw[hr]
  have HQ:Hid (∀g w',w.heap.size≤g→IntBlk w' g (endB l l.length)→Only Nob w w'→NewPost w (matchP l) (.returned (.slice (some ⟨g,0,none⟩) l.length l.length)) w'):=fun g w' h0 h h3 =>
   ⟨_,rfl,.inr ⟨g,by simp[matchP,hok,DA],h0,by simpa [matchP,hok] using h⟩,h3⟩
  have hmk:=fun w=>run_make_row' (P:=prog) 50 3 (.int .i64 0) 8 underlying50 ED rfl .i64 .i64 l.length (by omega) (by omega) w
  go_enter func153,ntmps153;go_wp2_with (first
   |(go_at_call 152;refine(GX B _ _ cap l (HP.o.alloc hB _) HB1.o hn).mono ?_;rintro e w2 ⟨rfl,ho2⟩;have k2:=KP.out.only ho2 (fun h=>h);have k20:=k2.one;have k2f:=k2.frozen)
   |(go_at_call 180;refine(Df B _ _ cap l ((HP.o.alloc hB _).keep (AJ ho2 HB1.o)) (Nat.le_trans HB1.o ho2.size) hn HF.o).mono ?_;rintro e w3 ⟨g,rfl,hg,hib,ho3⟩;have k3:=k2.only ho3 (fun h=>h);have k30:=k3.one;have k3f:=k3.frozen;have hk3:=k3.lt))
  have H3:Hid (Only Nob w w3):=Only.trans (Only.trans (Only.alloc (Only.refl _ _) _) ho2) ho3;have HP3:Hid (ProgIn w3 B A l):=HP.o.keep (AJ H3.o hB);have hgl:=hib.lt;have HG:=h_ hib;have HE0:=h_ (IntBlk.made w3 l.length);have hBk:B≤w.heap.size:=hB;have K3:=h_ k3;have HB0:Hid (Below w3.heap.size w3 (w3.alloc (.cells (madeCells #[ι 0] l.length) 3))):=Below.alloc (Below.refl _ _) (Nat.le_refl _) _;generalize hE:w3.heap.size=E at *
  have HE:=h_ hE;have HEW:Hid (w.heap.size≤E):=h_ (hE▸H3.o.size);go_loopw [27] (fun c wr=>∃k:Nat,k≤l.length∧c=.int .i64 k∧IntBlk wr E (fillM l.length k)∧Below E w3 wr) (fun c _=>l.length-(intOf c).toNat)
  case atStart=>exact⟨0,by omega,rfl,by rw[Ke];exact HE0.o,HB0.o⟩
  case round =>
   obtain⟨k,hk,rfl,hib,hbel⟩:=hrel;have HI:=h_ hib;have HB:=h_ hbel;have hEl:=hib.lt;by_cases hlt:k<l.length
   ·have hc:=hib.cellD 0 (k:=k) (by rw[Nj hk];exact hlt)
    have hcf:=hib.frozen k;have hkI:(k:Int)<(l.length:Int):=by omega
    generalize (fillM l.length k).getD k 0=old at *
    go_wp2;go_roundw
    case rel=>exact⟨k+1,by omega,by go_num,by rw[←Kf hlt];exact HI.o.set_ k _,HB.o.setCell (p:=⟨E,k,none⟩) (show E≤E from Nat.le_refl _) _⟩
    case measure=>simp[intOf];omega
   ·obtain rfl:k=l.length:=by omega
    have hp0:=((K3.out.below hbel hk3)).one;have hpf:=((K3.out.below hbel hk3)).frozen;have HA0:Hid (IntBlk wr E (endA l 0)):=by
     have:=HI.o
     rw[Kg] at this;exact this
    go_wp2;go_loopw [37] (fun c wq=>∃k:Nat,k≤l.length∧c=.int .i64 k∧IntBlk wq E (endA l k)∧Below E w3 wq) (fun c _=>l.length-(intOf c).toNat)
    case atStart=>exact⟨0,by omega,rfl,HA0.o,HB.o⟩
    case round =>
     obtain⟨k,hk,rfl,hib,hbel⟩:=hrel;have HI:=h_ hib;have HB:=h_ hbel;have hEl:=hib.lt;have hp0:=((K3.out.below hbel hk3)).one;have hpf:=((K3.out.below hbel hk3)).frozen;by_cases hlt:k<l.length
     ·have hpr:ProgIn wr B A l:=HP3.o.keep (hbel.mono (by omega))
      obtain⟨b,o,hA,hlb,hi⟩:=hpr.at_ hlt;subst hA;have hGi:=(HG.o.below hbel hgl).cell (Ax hlt);have hop:(l.getD k PIns.none).op=opOf l k:=rfl;generalize l.getD k PIns.none=x at *
      obtain⟨i0,i1,i2,i3,i4⟩:=hi;have hblt:b<wr.heap.size:=by omega
      have hkI:(k:Int)<(l.length:Int):=by omega
      have hglt:g<wr.heap.size:=by omega
      have hwl:w.heap.size<wr.heap.size:=by omega
      have hEw:E≤wr.heap.size:=Nat.le_of_lt hEl;rw[hop] at i0;by_cases he:0<endsI (opOf l k)
      ·obtain⟨hr0,hrk⟩:=PA (HF.o k hlt) (Or.inl he);have hes:=h_ (FW (l:=l) (k:=k) he);obtain⟨t,ht⟩:=Int.eq_ofNat_of_zero_le hr0;have HT:=h_ ht;rw[ht] at hGi hrk;have htl:t<l.length:=by omega
       have htI:(t:Int)<(l.length:Int):=by omega
       have hc:=hib.cellD 0 (k:=t) (by rw[Im];exact htl)
       have hcf:=hib.frozen t;have d:decide (0<endsI (opOf l k))=true:=by simpa using he
       generalize (endA l k).getD t 0=old at *
       generalize opOf l k=op at *
       go_wp2_with (go_at_call 181;refine(AU _ _).mono ?_;rintro e w1 ⟨rfl,rfl⟩);go_roundw
       case rel =>
        refine⟨k+1,by omega,by go_num,?_,?_⟩
        ·rw[hes.out,HT.o];exact((HI.o.set_ t _).alloc _)
        ·exact(HB.o.setCell (p:=⟨E,t,none⟩) (show E≤E from Nat.le_refl _) _).alloc (by simp[World.setCell];omega) _
       case measure=>simp[intOf];omega
      ·have hes:=h_ (Gp (l:=l) (k:=k) he);have d:decide (0<endsI (opOf l k))=false:=by simpa using he
       generalize opOf l k=op at *
       go_wp2_with (go_at_call 181;refine(AU _ _).mono ?_;rintro e w1 ⟨rfl,rfl⟩);go_roundw
       case rel=>exact⟨k+1,by omega,by go_num,by rw[hes.out];exact HI.o.alloc _,HB.o.alloc hEw _⟩
       case measure=>simp[intOf];omega
     ·obtain rfl:k=l.length:=by omega
      have HA0:Hid (IntBlk wr E (endB l 0)):=HI.o;go_wp2;go_loopw [57] (fun c wq=>∃k:Nat,k≤l.length∧c=.int .i64 k∧IntBlk wq E (endB l k)∧Below E w3 wq) (fun c _=>l.length-(intOf c).toNat)
      case atStart=>exact⟨0,by omega,rfl,HA0.o,HB.o⟩
      case round =>
       obtain⟨k,hk,rfl,hib,hbel⟩:=hrel;have HI:=h_ hib;have HB:=h_ hbel;have hEl:=hib.lt;have hp0:=((K3.out.below hbel hk3)).one;have hpf:=((K3.out.below hbel hk3)).frozen;by_cases hlt:k<l.length
       ·have hpr:ProgIn wr B A l:=HP3.o.keep (hbel.mono (by omega))
        obtain⟨b,o,hA,hlb,hi⟩:=hpr.at_ hlt;subst hA;have hGi:=(HG.o.below hbel hgl).cell (Ax hlt);have hop:(l.getD k PIns.none).op=opOf l k:=rfl;generalize l.getD k PIns.none=x at *
        obtain⟨i0,i1,i2,i3,i4⟩:=hi;have hblt:b<wr.heap.size:=by omega
        have hkI:(k:Int)<(l.length:Int):=by omega
        have hglt:g<wr.heap.size:=by omega
        have hwl:w.heap.size<wr.heap.size:=by omega
        have hEw:E≤wr.heap.size:=Nat.le_of_lt hEl;rw[hop] at i0;by_cases he:opOf l k=16
        ·obtain⟨hr0,hrk⟩:=PA (HF.o k hlt) (Or.inr he);have hes:=h_ (FV (l:=l) (k:=k) he);obtain⟨t,ht⟩:=Int.eq_ofNat_of_zero_le hr0;have HT:=h_ ht;rw[ht] at hGi hrk;have htl:t<l.length:=by omega
         have htI:(t:Int)<(l.length:Int):=by omega
         have hc:=hib.cellD 0 (k:=t) (by rw[DA];exact htl)
         have hc2:=hib.cellD 0 (k:=k) (by rw[DA];exact hlt)
         have hcf:=hib.frozen t;have hcf2:=hib.frozen k;have d:(opOf l k==16)=true:=by simpa using he
         generalize hold:(endB l k).getD t 0=old at *
         have HO:=h_ hold;generalize (endB l k).getD k 0=old2 at *
         generalize opOf l k=op at *
         go_wp2;go_roundw
         case rel =>
          refine⟨k+1,by omega,by go_num,?_,?_⟩
          ·rw[hes.out,HT.o,Int.toNat_natCast,HO.o];exact((HI.o.set_ k _).alloc _)
          ·exact(HB.o.setCell (p:=⟨E,k,none⟩) (show E≤E from Nat.le_refl _) _).alloc (by simp[World.setCell];omega) _
         case measure=>simp[intOf];omega
        ·have hes:=h_ (Gn (l:=l) (k:=k) he);have d:(opOf l k==16)=false:=by simpa using he
         generalize opOf l k=op at *
         go_wp2;go_roundw
         case rel=>exact⟨k+1,by omega,by go_num,by rw[hes.out];exact HI.o.alloc _,HB.o.alloc hEw _⟩
         case measure=>simp[intOf];omega
       ·obtain rfl:k=l.length:=by omega
        have HN:Hid (Only Nob w wr):=Only.trans H3.o (Only.of_below HB.o (fun k h1 h2=>by have:=HE.o;omega))
        go_wp2;go_ret;exact HQ.o _ _ HEW.o HI.o HN.o
def prH (A:Option Addr)(c:Nat)(l:List PIns):HP:=row 87 5 (.slice A l.length c) l.length (l.flatMap insV)
theorem NW (l:List PIns):(l.flatMap insV).length=l.length*5:=by
 induction l with
 |nil=>rfl
 |cons i l ih=>simp only[List.flatMap_cons,List.length_append,Cw,ih,List.length_cons];omega
theorem Ig (l:List PIns):∀u∈l.flatMap insV,u.oneCell'=true:=by
 intro u hu;obtain⟨i,hi,hu⟩:=List.mem_flatMap.1 hu;simp[insV] at hu;rcases hu with rfl|rfl|rfl|rfl|rfl<;>rfl
theorem PD {ω w:World}{F:HP}{A:Option Addr}{c:Nat}{l:List PIns}(h:Sat ω w (prH A c l*F)):ProgIn w w.heap.size A l:=by
 intro hl;obtain⟨g,e,lg,hc⟩:=Sat.rowAt (l:=l) (f:=insV) h Cw PIns.none (i:=0) (List.length_pos_iff.2 hl);refine⟨g,0,e,lg,fun k x hx=>?_⟩
 have hk:k<l.length:=(List.getElem?_eq_some_iff.1 hx).1;obtain⟨g2,e2,_,hc2⟩:=Sat.rowAt (l:=l) (f:=insV) h Cw PIns.none (i:=k) hk;rw[e] at e2;injection e2 with e2
 injection e2 with e2
 subst e2;have hg:l.getD k PIns.none=x:=by rw[gD,hx];rfl
 rw[hg] at hc2;rw[Nat.zero_add];exact⟨hc2 0 (by omega),hc2 1 (by omega),hc2 2 (by omega),hc2 3 (by omega),hc2 4 (by omega)⟩
theorem Sat.fresh {ω w w':World}{F:HP}(h:Sat ω w F)(ho:Only Nob w w'){g:Nat}{t:TypeId}{cs:Array Value}(hg:w.heap.size≤g)(hb:Blk w' g t cs):Sat ω w' (bk g t cs*F):=by
 obtain⟨x,hx,hp⟩:=h.part;have h2:=h.nob ho;refine⟨h2.os,h2.tape,h2.output,_,fun k o hk=>?_,_,x,fun k=>?_,rfl,rfl,hp⟩
 ·by_cases e:k=g
  ·subst e;simp at hk;rw[←hk];exact hb
  ·simp[e] at hk;have h9:=hx k o hk;rw[ho.block k (Array.getElem?_eq_some_iff.1 h9).1 (fun e=>e)]
   exact h9
 ·by_cases e:k=g
  ·right;subst e;cases hk:x k with
   |none=>rfl
   |some o =>
    have:=(Array.getElem?_eq_some_iff.1 (hx _ _ hk)).1
    omega
  ·left;simp[e]
theorem Ie {ω w w':World}{F:HP}(h:Sat ω w F)(ho:Only Nob w w'){v:Value}{l:List Int}(hn:IntsNew w w' v l)(hl:l.length≤1000):∃A c,v=.slice A l.length c∧Sat ω w' (row 3 1 (.slice A l.length c) l.length (l.map (Value.int .i64))*F):=by
 rcases hn with⟨rfl,rfl⟩|⟨g,rfl,hg,hb⟩
 ·exact⟨none,0,rfl,(h.nob ho).nil _ _⟩
 ·refine⟨_,_,rfl,?_⟩;have h1:=(h.fresh ho hg hb).rowOf (n:=l.length) (size:=1) (by simp[ints]) (by unfold maxLen;omega)
  simpa [ints] using h1
theorem UA (ω w:World)(F:HP)(vb:Nat)(l:List PIns)(v:PVw)(A:Option Addr)(c:Nat)(h:Sat ω w (prH A c l*(vwH vb v*F)))(hl:l.length≤40)(hok:okP l=true)(fuel:Nat):
  Calls prog 127 #[.agg #[.slice A l.length c],.pointer vb,fuel] w (RetP ω (prH A c l*F) fun b=>itH b vb (PIt.new l fuel) v):=by
 obtain⟨i0,hi0,hz⟩:=Option.map_eq_some_iff.1 Ii;simp only[Prod.mk.injEq] at hz;obtain⟨hz0,hz1,hz2⟩:=hz;have HI:=h_ hi0;have HZ0:=h_ hz0;have HZ1:=h_ hz1;have HZ2:=h_ hz2;obtain⟨n,hn⟩:∃n,l.length=n:=⟨_,rfl⟩;have hm1:(matchP l).length≤1000:=by unfold matchP;rw[if_pos hok,DA];omega
 have HON:=h_ (Ig l);have HN:Hid (Sat ω (w.alloc (.cells #[.slice A n c] 32)) (row 87 5 (.slice none 0 0) 0 []*(bk w.heap.size 32 #[.slice A n c]*(prH A c l*(vwH vb v*F))))):=h_ ((h.new #[.slice A n c] 32).nil _ _);have HRD:Hid (∀o,Reads (w.alloc o) (w.heap.size+1) 5 A n (l.flatMap insV)):=h_ (fun o=>by
  have h1:Sat ω (w.alloc o) (row 87 5 (.slice A n c) n (l.flatMap insV)*(vwH vb v*F)):=hn▸(h.junk o);have h9:=h1.reads;rw[World.size_alloc] at h9;exact h9)
 have hrun:(runP l).2=0:=by unfold okP at hok;simpa using hok
 obtain⟨G,hG⟩:∃G,G=vwH vb v*(prH A c l*F):=⟨_,rfl⟩;have HX:Hid (∀w1 A' c',Sat ω w1 (row 87 5 (.slice A' (0+n) c') (0+n) ([]++l.flatMap insV)*(bk w.heap.size 32 #[.slice A n c]*(prH A c l*(vwH vb v*F))))→Sat ω w1 (bk w.heap.size 32 #[.slice A n c]*(prH A' c' l*G))):=h_ (fun w1 A' c' h1=>by
  rw[Nat.zero_add,List.nil_append] at h1;unfold prH at h1 ⊢;rw[hn] at h1 ⊢;rw[hG];unfold prH;rw[hn];exact h1.perm (by ac_rfl))
 have HRUN:Hid (∀w1 A' c',Sat ω w1 (prH A' c' l*G)→Calls prog 152 #[.agg #[.slice A' n c']] w1 fun e w'=>e=.returned (.tuple #[.int .i64 (runP l).1,ι 0])∧Only Nob w1 w'):=h_ (fun w1 A' c' h1=>by
  have h9:=GX w1.heap.size w1 A' c' l (PD h1) (Nat.le_refl _) (by omega)
  rw[hn,hrun] at h9;exact h9)
 have HMA:Hid (∀w1 P A' c',Sat ω w1 (P*(prH A' c' l*G))→Calls prog 153 #[.agg #[.slice A' n c']] w1 fun e w'=>∃A9 c9,e=.returned (.slice A9 (matchP l).length c9)∧Sat ω w' (row 3 1 (.slice A9 (matchP l).length c9) (matchP l).length ((matchP l).map (Value.int .i64))*(P*(prH A' c' l*G)))):=h_ (fun w1 P A' c' h1=>by
  have h9:=NC w1.heap.size w1 A' c' l (PD h1.right) (Nat.le_refl _) (by omega)
  rw[hn] at h9;refine h9.mono ?_;rintro e w2 ⟨u,rfl,hu,ho⟩;obtain⟨A9,c9,rfl,h8⟩:=Ie h1 ho hu hm1;exact⟨A9,c9,rfl,h8⟩)
 have HNEW:Hid (∀w1 P,Sat ω w1 P→Calls prog 154 #[] w1 (RetP ω P fun b=>slH b [])):=h_ (fun w1 P h1=>TW ω w1 P h1)
 have efl:max (0:Int) (min (fuel:Int) 400)=((min fuel 400:Nat):Int):=by omega
 obtain⟨fl,hfl⟩:∃fl,min fuel 400=fl:=⟨_,rfl⟩;rw[hfl] at efl;obtain⟨ML,hML⟩:∃ML,(matchP l).length=ML:=⟨_,rfl⟩;rw[hML] at HMA;have HFI:Hid (∀w2 P A' c' A9 c9 sb,Sat ω w2 (slH sb []*(row 3 1 (.slice A9 ML c9) ML ((matchP l).map (Value.int .i64))*(P*(prH A' c' l*G))))→Sat ω (w2.alloc (.cells #[.slice A' n c',.pointer vb,.slice A9 ML c9,ι 0,ι 0,ι 0,υ 0,υ 0,υ 0,υ 0,υ 0,υ 0,υ 0,υ 0,.pointer (some ⟨sb,0,none⟩),ι 0,ι 0,fl,.slice none 0 0] 245)) (itH w2.heap.size vb (PIt.new l fuel) v*(prH A c l*F))):=h_ (fun w2 P A' c' A9 c9 sb h0=>by
  have h1:Sat ω w2 (slH sb []*(row 3 1 (.slice A9 ML c9) ML ((matchP l).map (Value.int .i64))*(prH A' c' l*G))):=(h0.perm (by ac_rfl:_=P*(slH sb []*(row 3 1 (.slice A9 ML c9) ML ((matchP l).map (Value.int .i64))*(prH A' c' l*G))))).right
  have h2:=(h1.nil 346 11).bkNew (t:=245) (cs:=#[.slice A' n c',.pointer vb,.slice A9 ML c9,ι 0,ι 0,ι 0,υ 0,υ 0,υ 0,υ 0,υ 0,υ 0,υ 0,υ 0,.pointer (some ⟨sb,0,none⟩),ι 0,ι 0,fl,.slice none 0 0]) (ds:=itC (PIt.new l fuel) ⟨A',c',A9,c9,none,0,vb,sb⟩) (by
   unfold itC PIt.new;simp only[hML,hn,hfl];rfl)
  refine Ae (D:=⟨A',c',A9,c9,none,0,vb,sb⟩) rfl ?_;rw[hG] at h2;unfold itX;unfold prH at h2 ⊢;have e1:(PIt.new l fuel).code=l:=rfl;have e2:(PIt.new l fuel).opens=[]:=rfl;have e3:(PIt.new l fuel).out=[]:=rfl;simp only[e1,e2,e3,List.flatMap_nil,List.length_nil,hML];exact h2.perm (by ac_rfl))
 have hn40:n≤40:=by omega
 have hby:n*40≤140737488355328:=by omega
 rw[hn];generalize l.flatMap insV=xs at *
 go_enter func127,ntmps127;go_wp2_with (first
  |(at_builtin;refine AB rfl _ _ 30 rfl 87 i0 _ 5 40 underlying30 HI.o HZ0.o HZ1.o HZ2.o rfl (by decide) _ 0 _ rfl HN.o _ _ _ _ _ rfl (HRD.o _) HON.o (by unfold maxLen;omega) (by omega) ?_;intro A' c' w2 hs;have hk:=HX.o _ _ _ hs;have kb:=hk.blk;have qf:=kb.frozen;have ql:=kb.lt;have q1:=kb.cell 0;have HY:=h_ (hk.put 0 (.slice A' n c') (cs':=#[.slice A' n c']) rfl))
  |(go_at_call 152;refine(HRUN.o _ _ _ HY.o.right).mono ?_;rintro e w3 ⟨rfl,ho⟩;have hk:=HY.o.nob ho;have kb:=hk.blk;have ql3:=kb.lt;have q3:=kb.c 0;have HY3:=h_ hk))
 refine wp_region_any (by kernel_rfl) ?_
 try (change wpAny _ _ _ _ _ _ _ (World.drew _))
 refine tF 1 ?_ rfl ?_ (tF 4 ?_ rfl ?_ (tF 6 ?_ rfl ?_ (tF 7 ?_ rfl ?_ (tF 8 ?_ rfl ?_ ?_))));all_goals (try (
  intro w;go_simp<;>(try with_reducible rfl)))
 refine rF [0,2] ?_;refine AllReady.cons rfl (fun K hK=>?_) ?_
 ·go_simp;refine hK _ _ ?_;refine oF 2 rfl fun K hK=>?_
  go_simp;refine hK _ _ ?_;refine oF 3 rfl fun K hK=>?_
  go_simp;go_at_call 153;refine(HMA.o _ _ _ _ HY3.o.drew).mono ?_;rintro e w4 ⟨A9,c9,rfl,hs⟩;have kb:=hs.right.blk;have q4:=kb.c 0;have l4:=kb.lt;have HM:=h_ hs;refine hK _ _ ?_;refine oF 5 rfl fun K hK=>?_
  go_simp;go_at_call 154;refine(HNEW.o _ _ HM.o).mono ?_;rintro e w5 ⟨sb,rfl,hs⟩;have kb:=hs.right.right.blk;have q5:=kb.c 0;have l5:=kb.lt;have HS:=h_ hs;refine hK _ _ ?_;refine tF 9 ?_ rfl ?_ ?_;all_goals (try (
   intro w;go_simp<;>(try with_reducible rfl)))
  refine oF 10 rfl fun K hK=>?_
  go_simp;refine hK _ _ ?_;refine tF 11 ?_ rfl ?_ ?_;all_goals (try (
   intro w;go_simp<;>(try with_reducible rfl)))
  refine dF ?_;go_wp2;go_ret;exact⟨_,rfl,HFI.o _ _ _ _ _ _ _ HS.o⟩
 refine nF rfl fun K hK=>?_
 ·go_simp;refine hK _ _ ?_;refine rF [0,3] ?_;refine AllReady.cons rfl (fun K hK=>?_) ?_
  ·go_simp;refine hK _ _ ?_;refine oF 3 rfl fun K hK=>?_
   go_simp;go_at_call 153;refine(HMA.o _ _ _ _ HY3.o.drew).mono ?_;rintro e w4 ⟨A9,c9,rfl,hs⟩;have kb:=hs.right.blk;have q4:=kb.c 0;have l4:=kb.lt;have HM:=h_ hs;refine hK _ _ ?_;refine oF 5 rfl fun K hK=>?_
   go_simp;go_at_call 154;refine(HNEW.o _ _ HM.o).mono ?_;rintro e w5 ⟨sb,rfl,hs⟩;have kb:=hs.right.right.blk;have q5:=kb.c 0;have l5:=kb.lt;have HS:=h_ hs;refine hK _ _ ?_;refine tF 9 ?_ rfl ?_ ?_;all_goals (try (
    intro w;go_simp<;>(try with_reducible rfl)))
   refine oF 10 rfl fun K hK=>?_
   go_simp;refine hK _ _ ?_;refine tF 11 ?_ rfl ?_ ?_;all_goals (try (
    intro w;go_simp<;>(try with_reducible rfl)))
   refine dF ?_;go_wp2;go_ret;exact⟨_,rfl,HFI.o _ _ _ _ _ _ _ HS.o⟩
  refine nF rfl fun K hK=>?_
  ·go_simp;go_at_call 153;refine(HMA.o _ _ _ _ HY3.o.drew).mono ?_;rintro e w4 ⟨A9,c9,rfl,hs⟩;have kb:=hs.right.blk;have q4:=kb.c 0;have l4:=kb.lt;have HM:=h_ hs;refine hK _ _ ?_;refine rF [0,5] ?_;refine AllReady.cons rfl (fun K hK=>?_) ?_
   ·go_simp;refine hK _ _ ?_;refine oF 5 rfl fun K hK=>?_
    go_simp;go_at_call 154;refine(HNEW.o _ _ HM.o).mono ?_;rintro e w5 ⟨sb,rfl,hs⟩;have kb:=hs.right.right.blk;have q5:=kb.c 0;have l5:=kb.lt;have HS:=h_ hs;refine hK _ _ ?_;refine tF 9 ?_ rfl ?_ ?_;all_goals (try (
     intro w;go_simp<;>(try with_reducible rfl)))
    refine oF 10 rfl fun K hK=>?_
    go_simp;refine hK _ _ ?_;refine tF 11 ?_ rfl ?_ ?_;all_goals (try (
     intro w;go_simp<;>(try with_reducible rfl)))
    refine dF ?_;go_wp2;go_ret;exact⟨_,rfl,HFI.o _ _ _ _ _ _ _ HS.o⟩
   refine nF rfl fun K hK=>?_
   ·go_simp;go_at_call 154;refine(HNEW.o _ _ HM.o).mono ?_;rintro e w5 ⟨sb,rfl,hs⟩;have kb:=hs.right.right.blk;have q5:=kb.c 0;have l5:=kb.lt;have HS:=h_ hs;refine hK _ _ ?_;refine oF 0 rfl fun K hK=>?_
    go_simp;refine hK _ _ ?_;refine tF 9 ?_ rfl ?_ ?_;all_goals (try (
     intro w;go_simp<;>(try with_reducible rfl)))
    refine oF 10 rfl fun K hK=>?_
    go_simp;refine hK _ _ ?_;refine tF 11 ?_ rfl ?_ ?_;all_goals (try (
     intro w;go_simp<;>(try with_reducible rfl)))
    refine dF ?_;go_wp2;go_ret;exact⟨_,rfl,HFI.o _ _ _ _ _ _ _ HS.o⟩
structure PSt.kept (s:PSt):Prop where
 w1:32≤s.words
 w2:s.words≤256
 s1:1≤s.stripes
 s2:s.stripes≤16
 d1:1≤s.wide
 d2:s.wide≤16
 t1:1≤s.threads
 t2:s.threads≤4
 st:s.start≤4611686018427387903
 sp:s.spins≤4
 wr:s.writes≤96
 fu:s.fuel≤400
theorem PSt.kept.fit {s:PSt}(h:s.kept):s.fit:=⟨h.s1,h.s2,h.d1,h.d2⟩
def stV (s:PSt):Value:=.agg s
theorem Fx (w:World)(s:PSt)(h:s.kept):Calls prog 32 #[stV s] w fun en w'=>en=.returned (stV s)∧Only Nob w w':=by
 have:=h.w1;have:=h.w2;have:=h.s1;have:=h.s2;have:=h.d1;have:=h.d2;have:=h.t1;have:=h.t2;have:=h.st;have:=h.sp;have:=h.wr;have:=h.fu
 exact MD w _ _ _ _ _ _ _ _ _ _ _ _ _ _ _ _ (by omega) (by omega) (by omega) (by omega) (by omega) (by omega) (by omega) (by omega)
def frC (s:PSt)(me vb db:Nat):Array Value:=#[me,s.words,s.stripes,s.wide,s.threads,υ s.start,s.spins,s.writes,s.fuel,.pointer none,.slice none 0 0,ι 0,pV vb,pV db,ι 0,.nilIface,.pointer none,.pointer none,.pointer none,.bool false,υ 0,υ 0,ι 0,ι (-1),ι 0,.bool false]
theorem RJ (ω w:World)(F:HP)(h:Sat ω w F)(s:PSt)(hs:s.kept)(me:Nat):
  Calls prog 126 #[me,stV s] w fun e w'=>∃b vb db,e=.returned (.pointer (some ⟨b,0,none⟩))∧Sat ω w' (bk b 198 (frC s me vb db)*(rdH db []*(vwH vb (PVw.new s.words s.writes)*F))):=by
 have HH:=h_ (fun w1=>Fx w1 s hs)
 have HB:Hid (Sat ω (w.alloc (.cells s 39)) (bk w.heap.size 39 s*F)):=h_ (h.new _ _);have HV:Hid (∀w1 P,Sat ω w1 P→Calls prog 150 #[s.words,s.writes] w1 (RetP ω P fun b=>vwH b (PVw.new s.words s.writes))):=h_ (fun w1 P h1=>TR ω w1 P h1 s.words s.writes)
 have HR:Hid (∀w1 P,Sat ω w1 P→Calls prog 151 #[ι 16] w1 (RetP ω P fun b=>rdH b [])):=h_ (fun w1 P h1=>Tc ω w1 P h1)
 unfold stV at HH ⊢;clear h hs;go_enter func126,ntmps126;go_wp2_with (go_at_call 32;refine(HH.o _).mono ?_;rintro e w1 ⟨rfl,ho⟩;have kh:=HB.o.nob ho;have kb:=kh.blk;have kf:=kb.frozen;have kl:=kb.lt;have m0:=kb.cell 0;have m1:=kb.cell 1;have m2:=kb.cell 2;have m3:=kb.cell 3;have m4:=kb.cell 4;have m5:=kb.cell 5;have m6:=kb.cell 6;have m7:=kb.cell 7;have HK:=h_ kh;have KB1:=h_ kb;clear ho kh kb);have HC:Hid (Sat ω ((((((((w1.setCell w.heap.size s.words).setCell (κ w.heap.size 1) s.stripes).setCell (κ w.heap.size 2) s.wide).setCell (κ w.heap.size 3) s.threads).setCell (κ w.heap.size 4) (υ s.start)).setCell (κ w.heap.size 5) s.spins).setCell (κ w.heap.size 6) s.writes).setCell (κ w.heap.size 7) s.fuel) (bk w.heap.size 39 s*F)):=h_ ((((((((HK.o.put 0 _ rfl).put 1 _ rfl).put 2 _ rfl).put 3 _ rfl).put 4 _ rfl).put 5 _ rfl).put 6 _ rfl).put 7 _ rfl);clear m0 m1 m2 m3 m4 m5 m6 m7 kl kf HB HH KB1 HK;generalize ((((((((w1.setCell w.heap.size s.words).setCell (κ w.heap.size 1) s.stripes).setCell (κ w.heap.size 2) s.wide).setCell (κ w.heap.size 3) s.threads).setCell (κ w.heap.size 4) (υ s.start)).setCell (κ w.heap.size 5) s.spins).setCell (κ w.heap.size 6) s.writes).setCell (κ w.heap.size 7) s.fuel)=wC at *
 clear w1;generalize w.heap.size=N at *
 clear w;have HS0:Blk wC.drew N 39 s:=(HC.o.drewN 1).blk;refine gN (fun w1=>Blk w1 N 39 s) HS0 fun hh0=>?_
 refine tH 0 ?_ rfl ?_ (tH 1 ?_ rfl ?_ (tH 2 ?_ rfl ?_ (tH 3 ?_ rfl ?_ (tH 4 ?_ rfl ?_ (tH 5 ?_ rfl ?_ (tH 6 ?_ rfl ?_ ?_))))));all_goals (try (
  intro w hSw;have kf:=hSw.frozen;have kl:=hSw.lt;have m0:=hSw.cell 0;have m1:=hSw.cell 1;have m2:=hSw.cell 2;have m3:=hSw.cell 3;have m4:=hSw.cell 4;have m5:=hSw.cell 5;have m6:=hSw.cell 6;have m7:=hSw.cell 7;try simp only[sP]
  go_simp<;>(try with_reducible rfl)))
 try simp only[sP]
 refine oH 7 rfl fun K hK=>?_
 go_simp;go_at_call 150;refine(HV.o _ _ (HC.o.drewN _)).mono ?_;rintro e wA ⟨vb,rfl,hs⟩;have HX:=h_ hs;clear hs;first|(refine hK.q ?_ fun hh1=>?_)|(go_wp2_with fail;refine hK.q ?_ fun hh1=>?_)
 ·exact HX.o.right.blk
 clear hK K hh0;try simp only[sP]
 refine oH 8 rfl fun K hK=>?_
 go_simp;go_at_call 151;refine(HR.o _ _ HX.o).mono ?_;rintro e wB ⟨db,rfl,hs⟩;have HY:=h_ hs;clear hs;first|(refine hK.q ?_ fun hh2=>?_)|(go_wp2_with fail;refine hK.q ?_ fun hh2=>?_)
 ·exact HY.o.right.right.blk
 clear hK K hh1;try simp only[sP]
 refine tH 9 ?_ rfl ?_ ?_;all_goals (try (
  intro w hSw;have kf:=hSw.frozen;have kl:=hSw.lt;have m0:=hSw.cell 0;have m1:=hSw.cell 1;have m2:=hSw.cell 2;have m3:=hSw.cell 3;have m4:=hSw.cell 4;have m5:=hSw.cell 5;have m6:=hSw.cell 6;have m7:=hSw.cell 7;go_simp<;>(try with_reducible rfl)))
 try simp only[sP]
 refine oH 10 rfl fun K hK=>?_
 go_simp;have HQ:=h_ (HY.o.new (frC s me vb db) 198);first|(refine hK.q ?_ fun hh3=>?_)|(go_wp2_with fail;refine hK.q ?_ fun hh3=>?_)
 ·exact HQ.o.right.right.right.blk
 clear hK K hh2;try simp only[sP]
 refine tH 11 ?_ rfl ?_ ?_;all_goals (try (
  intro w hSw;have kf:=hSw.frozen;have kl:=hSw.lt;have m0:=hSw.cell 0;have m1:=hSw.cell 1;have m2:=hSw.cell 2;have m3:=hSw.cell 3;have m4:=hSw.cell 4;have m5:=hSw.cell 5;have m6:=hSw.cell 6;have m7:=hSw.cell 7;go_simp<;>(try with_reducible rfl)))
 try simp only[sP]
 refine dN ?_;go_wp2;go_ret;refine⟨_,rfl,vb,db,?_⟩;have hq:=HQ.o;exact(hq.perm (Q:=bk N 39 _*(bk _ 198 _*(rdH db []*(vwH vb (PVw.new s.words s.writes)*F)))) (by ac_rfl)).right
def NewS (n b:Nat)(s:PSt)(me vb db:Nat)(u:Value)(w:World):Prop:=Blk w n 32 #[u]∧∃v,Blk w b 198 ((frC s me vb db).setIfInBounds 9 v)
theorem at_make (ω w:World)(F:HP)(s:PSt)(hs:s.kept)(me:Nat)(A:Option Addr)(c:Nat)(l:List PIns)(h:Sat ω w (prH A c l*F))(hl:l.length≤40)(hok:okP l=true):
  Calls prog 91 #[me,stV s,.agg #[.slice A l.length c]] w (RetP ω (prH A c l*F) fun b=>atH b s (PAt.new me s l)):=by
 have HF:Hid (∀w1 P,Sat ω w1 P→Calls prog 126 #[me,stV s] w1 fun e w'=>∃b vb db,e=.returned (.pointer (some ⟨b,0,none⟩))∧Sat ω w' (bk b 198 (frC s me vb db)*(rdH db []*(vwH vb (PVw.new s.words s.writes)*P)))):=h_ (fun w1 P h1=>RJ ω w1 P h1 s hs me)
 have HI:Hid (∀w1 n n' b vb db,Sat ω w1 (bk b 198 (frC s me vb db)*(rdH db []*(vwH vb (PVw.new s.words s.writes)*(bk n 32 #[.slice A l.length c]*(bk n' 39 s*(prH A c l*F))))))→Calls prog 127 #[.agg #[.slice A l.length c],.pointer (some ⟨vb,0,none⟩),s.fuel] w1 fun e w'=>∃rb,e=.returned (.pointer (some ⟨rb,0,none⟩))∧Blk w' n 32 #[.slice A l.length c]∧Blk w' b 198 (frC s me vb db)∧(Blk (w'.setCell (κ b 9) (pV rb)) n 32 #[.slice A l.length c]∧Blk (w'.setCell (κ b 9) (pV rb)) b 198 ((frC s me vb db).setIfInBounds 9 (pV rb)))∧Sat ω (w'.setCell (κ b 9) (pV rb)) (atH b s (PAt.new me s l)*(prH A c l*F))):=h_ (fun w1 n n' b vb db h1=>by
  have h2:Sat ω w1 (prH A c l*(vwH vb (PVw.new s.words s.writes)*(bk b 198 (frC s me vb db)*(rdH db []*(bk n 32 #[.slice A l.length c]*(bk n' 39 s*F)))))):=h1.perm (by ac_rfl)
  refine(UA ω w1 _ vb l (PVw.new s.words s.writes) A c h2 hl hok s.fuel).mono ?_;rintro e w2 ⟨rb,rfl,h3⟩;have h4:Sat ω w2 (bk b 198 (frC s me vb db)*(bk n 32 #[.slice A l.length c]*(itH rb vb (PIt.new l s.fuel) (PVw.new s.words s.writes)*(prH A c l*(rdH db []*(bk n' 39 s*F)))))):=h3.perm (by ac_rfl)
  have h5:=h4.put 9 (pV rb) rfl;refine⟨rb,rfl,h4.right.blk,h4.blk,⟨h5.right.blk,h5.blk⟩,?_⟩;have h6:=(h5.perm (Q:=bk n 32 #[.slice A l.length c]*(bk n' 39 s*(bk b 198 _*(itH rb vb (PIt.new l s.fuel) (PVw.new s.words s.writes)*(rdH db []*(prH A c l*F)))))) (by ac_rfl)).right.right
  refine AY (D:=⟨rb,vb,db,.nilIface,.pointer none,.pointer none,.pointer none⟩) ?_;have h7:=Sat.to_fact (p:=(Value.pointer none=Value.pointer none)) rfl h6;exact h7.perm (Q:=(bk b 198 _*(itH rb vb (PIt.new l s.fuel) (PVw.new s.words s.writes)*(rdH db []*fact _)))*(prH A c l*F)) (by ac_rfl))
 have HB:Hid (Sat ω ((w.alloc (.cells s 39)).alloc (.cells #[.slice A l.length c] 32)) (bk (w.heap.size+1) 32 #[.slice A l.length c]*(bk w.heap.size 39 s*(prH A c l*F)))):=by
  have:=(h.new s 39).new #[.slice A l.length c] 32
  rw[World.size_alloc] at this;exact h_ this
 unfold stV at HF ⊢;go_enter func91,ntmps91;have kh:=HB.o;have ks:=kh.right.blk;have kf:=ks.frozen;have kl:=ks.lt;have m0:=ks.cell 0;have m1:=ks.cell 1;have m2:=ks.cell 2;have m3:=ks.cell 3;have m4:=ks.cell 4;have m5:=ks.cell 5;have m6:=ks.cell 6;have m7:=ks.cell 7;have kn:w.heap.size<w.heap.size+1:=(by omega);have kn2:w.heap.size<w.heap.size+1+1:=(by omega)
 go_wp2_with (go_at_call 126;refine(HF.o _ _ HB.o).mono ?_;rintro e w1 ⟨b,vb,db,rfl,hq⟩;have HQ:=h_ hq);have HS0:NewS (w.heap.size+1) b s me vb db (.slice A l.length c) w1.drew:=⟨(HQ.o.drewN 1).right.right.right.blk,.pointer none,(HQ.o.drewN 1).blk⟩;refine gN (NewS (w.heap.size+1) b s me vb db (.slice A l.length c)) HS0 fun hh0=>?_
 refine tH 0 ?_ rfl ?_ (tH 1 ?_ rfl ?_ (tH 2 ?_ rfl ?_ (tH 3 ?_ rfl ?_ (tH 4 ?_ rfl ?_ (tH 5 ?_ rfl ?_ (tH 6 ?_ rfl ?_ (tH 7 ?_ rfl ?_ (tH 8 ?_ rfl ?_ (tH 9 ?_ rfl ?_ (tH 10 ?_ rfl ?_ ?_))))))))));all_goals (try (
  intro w hSw;obtain⟨hS1,vv,hS2⟩:=hSw;have kf:=hS1.frozen;have kl:=hS1.lt;have kc:=hS1.cell 0;have jf:=hS2.frozen;have jl:=hS2.lt;have j8:=hS2.c 8;have j12:=hS2.c 12;try simp only[sP]
  go_simp<;>(try with_reducible rfl)))
 try simp only[sP]
 refine oH 11 rfl fun K hK=>?_
 go_simp;go_at_call 127;refine(HI.o _ _ _ _ _ _ (HQ.o.drewN _)).mono ?_;rintro e wA ⟨rb,rfl,b1,b2,b3,hs⟩;have HZ:=h_ hs;have HB1:=h_ b1;have HB2:=h_ b2;have HB3:=h_ b3;(try go_wp2_with fail);refine hK.q ?_ fun hh1=>?_
 ·exact⟨HB1.o,.pointer none,HB2.o⟩
 try simp only[sP]
 refine tH 12 ?_ rfl ?_ (tH 13 ?_ rfl ?_ ?_);all_goals (try (
  intro w hSw;obtain⟨hS1,vv,hS2⟩:=hSw;have kf:=hS1.frozen;have kl:=hS1.lt;have kc:=hS1.cell 0;have jf:=hS2.frozen;have jl:=hS2.lt;have j8:=hS2.c 8;have j12:=hS2.c 12;try simp only[sP]
  go_simp<;>(try with_reducible rfl)))
 try simp only[sP]
 refine oH 14 rfl fun K hK=>?_
 have lb:=HB2.o.lt;have fb:=HB2.o.frozen;have db9:=HB2.o.cell 9;go_simp;(try go_wp2_with fail);refine hK.q ?_ fun hh2=>?_
 ·exact⟨HB3.o.1,_,HB3.o.2⟩
 try simp only[sP]
 refine dN ?_;go_wp2;go_ret;exact⟨_,rfl,HZ.o⟩
structure ThD where
 jA:Option Addr
 jc:Nat
 js:List (Option Addr×Nat)
 nb:Nat
 pv:Value
 ps:List (Value×Value)
 rv:Value
 lb:Nat
def jbV (js:List (Option Addr×Nat))(ls:List (List PIns)):List Value:=List.zipWith (fun a l=>Value.slice a.1 l.length a.2) js ls
def jbAll:List (Option Addr×Nat)→List (List PIns)→HP
 |a::js,l::ls=>prH a.1 a.2 l*jbAll js ls
 |_,_=>emp
def nowV (nb:Nat):Option PAt→Value
 |none=>.pointer none
 |some _=>pV nb
def nowH (s:PSt)(nb:Nat):Option PAt→HP
 |none=>emp
 |some x=>atH nb s x
def toV (p:Value×Value)(t:PTo):List Value:=[.int .i64 t.thread,.int .i64 t.job,.int .i64 t.try_,.bool false,.int .i64 t.kind,.int .i64 t.err,.int .u64 t.begin,.int .u64 t.stamp,.int .i64 t.born,.int .i64 t.ended,p.1,p.2,.slice none 0 0,.string ⟨t.slate.toArray⟩]
def toH (p:Value×Value)(t:PTo):HP:=row 54 2 p.1 t.reads.length (vS t.reads)*row 54 2 p.2 t.cells.length (vS t.cells)
def toVs:List (Value×Value)→List PTo→List Value
 |p::ps,t::ts=>toV p t++toVs ps ts
 |_,_=>[]
def toAll:List (Value×Value)→List PTo→HP
 |p::ps,t::ts=>toH p t*toAll ps ts
 |_,_=>emp
def reV (r:PRe):List Value:=[.int .i64 r.kind,.int .i64 r.err,.string ⟨r.slate.toArray⟩,.int .u64 r.stamp]
def thC (s:PSt)(t:PTh)(D:ThD)(j:Int):Array Value:=#[t.me,s.words,s.stripes,s.wide,s.threads,υ s.start,s.spins,s.writes,s.fuel,.slice D.jA t.jobs.length D.jc,j,t.state,.bool false,.slice none 0 0,t.tries,t.conflicts,nowV D.nb t.now,t.born,.bool t.alarmed,D.pv,D.rv,pV D.lb,.slice none 0 0,t.by_,υ t.since,.bool t.yielding,t.pauses]
def thJ (ls:List (List PIns))(D:ThD):HP:=fact (D.js.length=ls.length)*(row 32 1 (.slice D.jA ls.length D.jc) ls.length (jbV D.js ls)*jbAll D.js ls)
def thT (t:PTh)(D:ThD):HP:=thJ t.jobs D*((fact (D.ps.length=t.past.length)*(row 52 14 D.pv t.past.length (toVs D.ps t.past)*toAll D.ps t.past))*(row 66 4 D.rv t.results.length (t.results.flatMap reV)*bk D.lb 188 #[.slice none 0 0]))
def thX (b:Nat)(s:PSt)(t:PTh)(D:ThD)(j:Int):HP:=bk b 138 (thC s t D j)*(nowH s D.nb t.now*thT t D)
def thH (b:Nat)(s:PSt)(t:PTh):HP:=ex fun D=>thX b s t D t.job
theorem Ca {ω w:World}{F:HP}{b:Nat}{s:PSt}{t:PTh}(h:Sat ω w (thH b s t*F)):∃D,Sat ω w (thX b s t D t.job*F):=h.of_ex
theorem Ak {ω w:World}{F:HP}{b:Nat}{s:PSt}{t:PTh}{D:ThD}(h:Sat ω w (thX b s t D t.job*F)):Sat ω w (thH b s t*F):=Sat.to_ex D h
theorem AE {ω w:World}{F:HP}{b:Nat}{s:PSt}{t:PTh}{D:ThD}{j:Int}(h:Sat ω w (thX b s t D j*F)):Blk w b 138 (thC s t D j):=h.assoc.blk
theorem En:∀(js:List (Option Addr×Nat)) (ls:List (List PIns)),js.length=ls.length→∀i (hi:i<ls.length),∃A c R,(jbV js ls)[i]?=some (.slice A (ls.getD i []).length c)∧jbAll js ls=prH A c (ls.getD i [])*R
 | [],[],_,i,hi=>by simp at hi
 |a::js,l::ls,h,0,_=>⟨a.1,a.2,jbAll js ls,by simp[jbV],by simp[jbAll]⟩
 |a::js,l::ls,h,i+1,hi=>by
  obtain⟨A,c,R,h1,h2⟩:=En js ls (by simpa using h) i (by simpa using hi)
  refine⟨A,c,prH a.1 a.2 l*R,by simpa [jbV] using h1,?_⟩
  show prH a.1 a.2 l*jbAll js ls=_
  rw[h2];simp only[List.getD_cons_succ];ac_rfl
theorem Sat.rowCell {ω w:World}{F:HP}{e:TypeId}{n c:Nat}{A:Option Addr}{xs:List Value}(h:Sat ω w (row e 1 (.slice A n c) n xs*F)){i:Nat}{v:Value}(hv:xs[i]?=some v):
  ∃g,A=some ⟨g,0,none⟩∧g<w.heap.size∧w.cell? (κ g i)=some v:=by
 rcases h.cases with⟨h1,h2,h3,_⟩|⟨g,cap,cur,h2,h3,h4,h5,h6,h7,h8⟩
 ·subst h3;simp at hv
 ·injection h2 with h2 _ _
  refine⟨g,h2,h8.blk.lt,?_⟩;have hi:i<n:=by
   have:=(List.getElem?_eq_some_iff.1 hv).1
   omega
  rw[h8.blk.cell,←hv,←h6,List.getElem?_take,if_pos (by omega)]
  simp
theorem Ri {ω w:World}{F P:HP}{t:PTh}{D:ThD}(h:Sat ω w (P*(thT t D*F)))(hi:t.job<t.jobs.length):∃g A c R,D.jA=some ⟨g,0,none⟩∧(jbV D.js t.jobs)[t.job]?=some (.slice A (t.jobs.getD t.job []).length c)∧thT t D=prH A c (t.jobs.getD t.job [])*R:=by
 have h1:=h.right;unfold thT thJ at h1;obtain⟨h2,h3⟩:=h1.assoc.assoc.of_fact;obtain⟨A,c,R,h4,h5⟩:=En D.js t.jobs h2 t.job hi;obtain⟨g,h6,h7,h8⟩:=h3.assoc.rowCell h4;refine⟨g,A,c,fact (D.js.length=t.jobs.length)*(row 32 1 (.slice D.jA t.jobs.length D.jc) t.jobs.length (jbV D.js t.jobs)*R)*((fact (D.ps.length=t.past.length)*(row 52 14 D.pv t.past.length (toVs D.ps t.past)*toAll D.ps t.past))*(row 66 4 D.rv t.results.length (t.results.flatMap reV)*bk D.lb 188 #[.slice none 0 0])),h6,h4,?_⟩;unfold thT thJ;rw[h5];ac_rfl
theorem Hv {ω w:World}{F P:HP}{t:PTh}{D:ThD}(h:Sat ω w (P*(thT t D*F))){g:Nat}{v:Value}(hg:D.jA=some ⟨g,0,none⟩)(hv:(jbV D.js t.jobs)[t.job]?=some v):g<w.heap.size∧w.cell? (κ g t.job)=some v:=by
 have h1:=h.right;unfold thT thJ at h1;obtain⟨h2,h3⟩:=h1.assoc.assoc.of_fact;obtain⟨g',h6,h7,h8⟩:=h3.assoc.rowCell hv;rw[hg] at h6;injection h6 with h6
 injection h6 with h6
 subst h6;exact⟨h7,h8⟩
structure ThS (b:Nat) (CS:Array Value) (g J:Nat) (v:Value) (w:World):Prop where
 blk:∃u,Blk w b 138 (CS.setIfInBounds 16 u)
 row:w.cell? (κ g J)=some v
 lt:g<w.heap.size
def PTh.fresh (t:PTh):PTh:={t with born:=0,alarmed:=false}
structure PTh.fit (t:PTh):Prop where
 job:t.job≤t.jobs.length
 jobs:t.jobs.length≤6
 prog:∀p∈t.jobs,p.length≤40∧okP p=true
theorem Bo (ω w:World)(F:HP)(b:Nat)(s:PSt)(t:PTh)(D:ThD)(h:Sat ω w (thX b s t D t.job*F))(hs:s.kept)(hf:t.fit):
  Calls prog 60 #[.pointer b] w (Rets ω F (.tuple #[]) (thH b s (t.again s))):=by
 have hA:Sat ω w (bk b 138 (thC s t D t.job)*(thT t D*F)):=by
  have h1:Sat ω w (nowH s D.nb t.now*(bk b 138 (thC s t D t.job)*(thT t D*F))):=h.perm (by unfold thX;ac_rfl)
  exact h1.right
 have hb:=hA.blk;have HA:Hid (Sat ω ((w.setCell (κ b 17) (ι 0)).setCell (κ b 18) (.bool false)) (bk b 138 (thC s t.fresh D t.job)*(thT t D*F))):=h_ ((hA.put 17 (ι 0) (cs':=thC s {t with born:=0} D t.job) rfl).put 18 (.bool false) rfl)
 have m17:w.cell? (κ b 17)=some (.int .i64 t.born):=hb.cell 17;have m18:w.cell? (κ b 18)=some (.bool t.alarmed):=hb.cell 18;have mf:=hb.frozen;have ml:=hb.lt;by_cases hj:t.job=t.jobs.length
 ·have HZ:Hid (∀w1,Sat ω w1 (bk b 138 (thC s t.fresh D t.job)*(thT t D*F))→Sat ω ((w1.setCell (κ b 11) (ι 6)).setCell (κ b 16) (.pointer none)) (thH b s (t.again s)*F)):=h_ (fun w1 h1=>by
   refine Ak (D:=D) ?_;have h2:=((h1.put 11 (ι 6) (cs':=thC s {t.fresh with state:=6} D t.job) rfl).put 16 (.pointer none) (cs':=thC s {t.fresh with state:=6,now:=none} D t.job) rfl)
   have e:t.again s={t.fresh with state:=6,now:=none}:=by
    unfold PTh.again;simp only;rw[if_pos hj];rfl
   rw[e];exact h2.perm (Q:=(bk b 138 (thC s {t.fresh with state:=6,now:=none} D t.job)*(emp*thT t D))*F) (by rw[AD];ac_rfl))
  go_enter func60,ntmps60;go_wp2;generalize ((w.setCell (κ b 17) (ι 0)).setCell (κ b 18) (.bool false))=wC at *
  have HS0:Blk wC.drew b 138 (thC s t.fresh D t.job):=(HA.o.drewN 1).blk;refine gN (fun w1=>Blk w1 b 138 (thC s t.fresh D t.job)) HS0 fun hh0=>?_
  refine tH 0 ?_ rfl ?_ (tH 1 ?_ rfl ?_ (tH 2 ?_ rfl ?_ (tH 3 ?_ rfl ?_ (tH 4 ?_ rfl ?_ (tH 5 ?_ rfl ?_ (tH 6 ?_ rfl ?_ (tH 7 ?_ rfl ?_ (tH 8 ?_ rfl ?_ (tH 9 ?_ rfl ?_ (tH 10 ?_ rfl ?_ ?_))))))))));all_goals (try (
   intro w hSw;have kf:=hSw.frozen;have kl:=hSw.lt;have k9:w.cell? (κ b 9)=some (.slice D.jA t.jobs.length D.jc):=hSw.cell 9;have k10:w.cell? (κ b 10)=some (.int .i64 t.job):=hSw.cell 10;try simp only[sP]
   go_simp<;>(try with_reducible rfl)))
  try simp only[sP]
  refine dN ?_;have hb:Blk wC.drew b 138 (thC s t.fresh D t.job):=(HA.o.drewN 1).blk;have HD:Hid (Sat ω ((wC.drew.setCell (κ b 11) (ι 6)).setCell (κ b 16) (.pointer none)) (thH b s (t.again s)*F)):=h_ (HZ.o _ (HA.o.drewN 1));have kf:=hb.frozen;have kl:=hb.lt;have k11:wC.drew.cell? (κ b 11)=some (.int .i64 t.state):=hb.cell 11;obtain⟨u16,k16⟩:∃u,wC.drew.cell? (κ b 16)=some u:=⟨_,hb.cell 16⟩;obtain⟨v16,k16c⟩:∃u,wC.cell? (κ b 16)=some u:=⟨_,HA.o.blk.cell 16⟩;have kfc:=HA.o.blk.frozen;have klc:=HA.o.blk.lt;go_wp2;first|(go_ret;exact⟨rfl,HD.o⟩)|exact bodyPost_end (results_none rfl _ _ _) rfl ⟨rfl,HD.o⟩
 ·have hlt:t.job<t.jobs.length:=Nat.lt_of_le_of_ne hf.job hj;obtain⟨g,A,c,R,hg,hv,hT⟩:=Ri hA hlt;obtain⟨P,hP⟩:∃P,t.jobs.getD t.job []=P:=⟨_,rfl⟩;rw[hP] at hv hT;have hp:P.length≤40∧okP P=true:=by
   rw[←hP];refine hf.prog _ ?_;rw[gD,List.getElem?_eq_getElem hlt];exact List.getElem_mem hlt
  have hTS:∀(w1:World) (G:HP),Sat ω w1 (bk b 138 (thC s t.fresh D t.job)*(G*(thT t D*F)))→ThS b (thC s t.fresh D t.job) g t.job (.slice A P.length c) w1:=fun w1 G h1=>by
   have h2:=Hv (P:=bk b 138 (thC s t.fresh D t.job)*G) (h1.perm (Aa _ _ _).symm) hg hv;exact⟨⟨nowV D.nb t.now,h1.blk⟩,h2.2,h2.1⟩
  have HM:Hid (∀w1,Sat ω w1 (bk b 138 (thC s t.fresh D t.job)*(thT t D*F))→Calls prog 91 #[t.me,stV s,.agg #[.slice A P.length c]] w1 fun e w'=>∃nb,e=.returned (.pointer (some ⟨nb,0,none⟩))∧Blk w' b 138 (thC s t.fresh D t.job)∧ThS b (thC s t.fresh D t.job) g t.job (.slice A P.length c) w'∧ThS b (thC s t.fresh D t.job) g t.job (.slice A P.length c) (w'.setCell (κ b 16) (pV nb))∧Blk (w'.setCell (κ b 16) (pV nb)) b 138 (thC s {t.fresh with now:=some (PAt.new t.me s P)} {D with nb:=nb} t.job)∧Sat ω ((w'.setCell (κ b 16) (pV nb)).setCell (κ b 11) (ι 1)) (thH b s (t.again s)*F)):=h_ (fun w1 h1=>by
   have h2:Sat ω w1 (prH A c P*(bk b 138 (thC s t.fresh D t.job)*(R*F))):=h1.perm (by rw[hT];ac_rfl)
   refine(at_make ω w1 _ s hs t.me A c P h2 hp.1 hp.2).mono ?_;rintro e w2 ⟨nb,rfl,h3⟩;have h3:Sat ω w2 (atH nb s (PAt.new t.me s P)*(prH A c P*(bk b 138 (thC s t.fresh D t.job)*(R*F)))):=h3;have h4:Sat ω w2 (bk b 138 (thC s t.fresh D t.job)*(atH nb s (PAt.new t.me s P)*(thT t D*F))):=h3.perm (by rw[hT];ac_rfl)
   have h5:=h4.put 16 (pV nb) (cs':=thC s {t.fresh with now:=some (PAt.new t.me s P)} {D with nb:=nb} t.job) rfl
   have h6:=Hv (P:=bk b 138 _*atH nb s (PAt.new t.me s P)) (h5.perm (Aa _ _ _).symm) hg hv;refine⟨nb,rfl,h4.blk,hTS w2 _ h4,⟨⟨pV nb,h5.blk⟩,h6.2,h6.1⟩,h5.blk,?_⟩;have h7:=h5.put 11 (ι 1) (cs':=thC s {t.fresh with now:=some (PAt.new t.me s P),state:=1} {D with nb:=nb} t.job) rfl
   refine Ak (D:={D with nb:=nb}) ?_
   have e:t.again s={t.fresh with now:=some (PAt.new t.me s P),state:=1}:=by
    unfold PTh.again;simp only;rw[if_neg hj,hP];rfl
   rw[e];exact h7.perm (Q:=(bk b 138 (thC s {t.fresh with now:=some (PAt.new t.me s P),state:=1} {D with nb:=nb} t.job)*(atH nb s (PAt.new t.me s P)*thT t D))*F) (by ac_rfl))
  have HTS:Hid (∀w1,Sat ω w1 (bk b 138 (thC s t.fresh D t.job)*(thT t D*F))→ThS b (thC s t.fresh D t.job) g t.job (.slice A P.length c) w1):=h_ (fun w1 h1=>hTS w1 emp (h1.perm (by rw[AD])))
  have HG:=h_ hg;unfold stV at HM;go_enter func60,ntmps60;go_wp2;generalize ((w.setCell (κ b 17) (ι 0)).setCell (κ b 18) (.bool false))=wC at *
  have HS0:Blk wC.drew b 138 (thC s t.fresh D t.job):=(HA.o.drewN 1).blk;refine gN (fun w1=>Blk w1 b 138 (thC s t.fresh D t.job)) HS0 fun hh0=>?_
  refine tH 0 ?_ rfl ?_ (tH 1 ?_ rfl ?_ (tH 2 ?_ rfl ?_ (tH 3 ?_ rfl ?_ (tH 4 ?_ rfl ?_ (tH 5 ?_ rfl ?_ (tH 6 ?_ rfl ?_ (tH 7 ?_ rfl ?_ (tH 8 ?_ rfl ?_ (tH 9 ?_ rfl ?_ (tH 10 ?_ rfl ?_ ?_))))))))));all_goals (try (
   intro w hSw;have kf:=hSw.frozen;have kl:=hSw.lt;have k9:w.cell? (κ b 9)=some (.slice D.jA t.jobs.length D.jc):=hSw.cell 9;have k10:w.cell? (κ b 10)=some (.int .i64 t.job):=hSw.cell 10;try simp only[sP]
   go_simp<;>(try with_reducible rfl)))
  try simp only[sP]
  refine dN ?_;have hb:Blk wC.drew b 138 (thC s t.fresh D t.job):=(HA.o.drewN 1).blk;have k12:wC.drew.cell? (κ b 12)=some (.bool false):=hb.cell 12;have kf:=hb.frozen;have kl:=hb.lt;have dj:((t.job:Int)==(t.jobs.length:Int))=false:=by simp;omega
  go_wp2;have hg:=HG.o;have HS1:ThS b (thC s t.fresh D t.job) g t.job (.slice A P.length c) wC.drew.drew:=HTS.o _ (HA.o.drewN 2);have HA2:Hid (Sat ω wC.drew.drew (bk b 138 (thC s t.fresh D t.job)*(thT t D*F))):=h_ (HA.o.drewN 2);refine gN (ThS b (thC s t.fresh D t.job) g t.job (.slice A P.length c)) HS1 fun hh0=>?_
  refine tH 0 ?_ rfl ?_ (tH 1 ?_ rfl ?_ (tH 2 ?_ rfl ?_ (tH 3 ?_ rfl ?_ (tH 4 ?_ rfl ?_ (tH 5 ?_ rfl ?_ (tH 6 ?_ rfl ?_ (tH 7 ?_ rfl ?_ (tH 8 ?_ rfl ?_ (tH 9 ?_ rfl ?_ (tH 10 ?_ rfl ?_ (tH 11 ?_ rfl ?_ (tH 12 ?_ rfl ?_ (tH 13 ?_ rfl ?_ (tH 14 ?_ rfl ?_ (tH 15 ?_ rfl ?_ (tH 16 ?_ rfl ?_ (tH 17 ?_ rfl ?_ (tH 18 ?_ rfl ?_ ?_))))))))))))))))));all_goals (try (
   intro w hSw;obtain⟨⟨uu,hS2⟩,jr,jg⟩:=hSw;have jf:=hS2.frozen;have jl:=hS2.lt;have j0:w.cell? b=some (.int .i64 t.me):=hS2.cell 0;have j1:w.cell? (κ b 1)=some (.int .i64 s.words):=hS2.cell 1;have j2:w.cell? (κ b 2)=some (.int .i64 s.stripes):=hS2.cell 2;have j3:w.cell? (κ b 3)=some (.int .i64 s.wide):=hS2.cell 3;have j4:w.cell? (κ b 4)=some (.int .i64 s.threads):=hS2.cell 4;have j5:w.cell? (κ b 5)=some (.int .u64 s.start):=hS2.cell 5;have j6:w.cell? (κ b 6)=some (.int .i64 s.spins):=hS2.cell 6;have j7:w.cell? (κ b 7)=some (.int .i64 s.writes):=hS2.cell 7;have j8:w.cell? (κ b 8)=some (.int .i64 s.fuel):=hS2.cell 8;have j9:w.cell? (κ b 9)=some (.slice D.jA t.jobs.length D.jc):=hS2.cell 9;have j10:w.cell? (κ b 10)=some (.int .i64 t.job):=hS2.cell 10;try simp only[sP]
   go_simp<;>(try with_reducible rfl)))
  try simp only[sP]
  refine oH 19 rfl fun K hK=>?_
  go_simp;go_at_call 91;refine(HM.o _ HA2.o).mono ?_;rintro e wA ⟨nb,rfl,b1,b2,b3,b4,hs⟩;have HZ:=h_ hs;have HB1:=h_ b1;have HB2:=h_ b2;have HB3:=h_ b3;have HB4:=h_ b4;(try go_wp2_with fail);refine hK.q ?_ fun hh1=>?_
  ·exact HB2.o
  try simp only[sP]
  refine tH 20 ?_ rfl ?_ (tH 21 ?_ rfl ?_ ?_);all_goals (try (
   intro w hSw;obtain⟨⟨uu,hS2⟩,jr,jg⟩:=hSw;have jf:=hS2.frozen;have jl:=hS2.lt;have j0:w.cell? b=some (.int .i64 t.me):=hS2.cell 0;have j1:w.cell? (κ b 1)=some (.int .i64 s.words):=hS2.cell 1;have j2:w.cell? (κ b 2)=some (.int .i64 s.stripes):=hS2.cell 2;have j3:w.cell? (κ b 3)=some (.int .i64 s.wide):=hS2.cell 3;have j4:w.cell? (κ b 4)=some (.int .i64 s.threads):=hS2.cell 4;have j5:w.cell? (κ b 5)=some (.int .u64 s.start):=hS2.cell 5;have j6:w.cell? (κ b 6)=some (.int .i64 s.spins):=hS2.cell 6;have j7:w.cell? (κ b 7)=some (.int .i64 s.writes):=hS2.cell 7;have j8:w.cell? (κ b 8)=some (.int .i64 s.fuel):=hS2.cell 8;have j9:w.cell? (κ b 9)=some (.slice D.jA t.jobs.length D.jc):=hS2.cell 9;have j10:w.cell? (κ b 10)=some (.int .i64 t.job):=hS2.cell 10;try simp only[sP]
   go_simp<;>(try with_reducible rfl)))
  try simp only[sP]
  refine oH 22 rfl fun K hK=>?_
  have lb:=HB1.o.lt;have fb:=HB1.o.frozen;obtain⟨u16,db16⟩:∃u,wA.cell? (κ b 16)=some u:=⟨_,HB1.o.cell 16⟩;go_simp;(try go_wp2_with fail);refine hK.q ?_ fun hh2=>?_
  ·exact HB3.o
  try simp only[sP]
  refine dN ?_;have d11:wA.cell? (κ b 11)=some (.int .i64 t.state):=HB1.o.cell 11;go_wp2;first|(go_ret;exact⟨rfl,HZ.o⟩)|exact bodyPost_end (results_none rfl _ _ _) rfl ⟨rfl,HZ.o⟩
end Go.Proofs.YtfodmgaliclhfaaGreatDoor
