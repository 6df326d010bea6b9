/- Lemmas for TopPairs; no conditions. -/
import Derived.Test.YtfodmgaliclhfaaGreatDoorGVw
import Derived.OwnWalk
namespace Go.Proofs.YtfodmgaliclhfaaGreatDoor
set_option linter.unusedVariables false
set_option linter.unusedSimpArgs false
set_option maxRecDepth 100000
set_option maxHeartbeats 4000000
open Go.RowKit
theorem PVw.is_lt {v:PVw}{p:Nat}(h:v.is p=true):1≤p∧p<v.facts.length:=by
 unfold PVw.is at h;simpa using h
structure VwC (w:World) (b g fc n p:Nat) (o:Option Nat):Prop where
 facts:w.cell? ⟨b,0,none⟩=some (.slice (some ⟨g,0,none⟩) n fc)
 word:w.cell? ⟨g,p*2,none⟩=some (.int .u64 ((o.getD 0:Nat):Int))
 known:w.cell? ⟨g,p*2+1,none⟩=some (.bool o.isSome)
 lb:b<w.heap.size
 lg:g<w.heap.size
 fb:∀j,w.frozen? ⟨b,j,none⟩=false
 fg:∀j,w.frozen? ⟨g,j,none⟩=false
 nd:∃u,w.cell? ⟨b,3,none⟩=some u
theorem vw_fact {ω w:World}{F:HP}{b:Nat}{v:PVw}(h:Sat ω w (vwH b v*F)){p:Nat}(hp:p<v.facts.length):∃g fc,VwC w b g fc v.facts.length p (v.facts.getD p none):=by
 obtain⟨lb,fA,fc,oA,oc,hx⟩:=vwH_of h;unfold vwX at hx;have h1:=hx.assoc;have h2:=h1.right.assoc;obtain⟨g,rfl,lg,hc⟩:=h2.rowAt (l:=v.facts) (f:=faV) (fun _=>rfl) none (i:=p) hp
 refine⟨g,fc,h1.blk.cell 0,hc 0 (by omega),hc 1 (by omega),h1.blk.lt,lg,h1.blk.frozen,?_,⟨_,h1.blk.cell 3⟩⟩
 rcases h2.cases with⟨h9,_⟩|⟨g',_,_,h9,_,_,_,_,_,h10⟩
 ·cases h9
 ·injection h9 with h9 _ _
  injection h9 with h9
  injection h9 with h9
  subst h9;exact h10.blk.frozen
theorem vw_setNeed {ω w:World}{F:HP}{b:Nat}{v:PVw}(h:Sat ω w (vwH b v*F))(p:Nat):Sat ω (w.setCell ⟨b,3,none⟩ (.int .i64 p)) (vwH b { v with need:=p }*F):=by
 obtain⟨lb,fA,fc,oA,oc,hx⟩:=vwH_of h;unfold vwX at hx;have h2:=(hx.assoc.put 3 (.int .i64 p) (cs':=#[.slice fA v.facts.length fc,.slice oA v.order.length oc,pV lb,.int .i64 p]) rfl).assoc';exact vwH_to (v:={ v with need:=p }) h2
def ReadPost (ω:World)(F:HP)(b:Nat)(r:Nat×Nat×PVw)(e:Ending)(w':World):Prop:=e=.returned (.tuple #[.int .u64 r.1,.int .i64 r.2.1])∧Sat ω w' (vwH b r.2.2*F)
theorem vw_read (ω w:World)(F:HP)(b:Nat)(v:PVw)(h:Sat ω w (vwH b v*F))(ho:v.ok)(p:Nat)(hp:p≤1000000):
  Calls Tryz.prog 185 #[.pointer (some ⟨b,0,none⟩),.int .i64 p] w (ReadPost ω F b (v.read p)):=by
 have HI:=vw_isQ h p;have H:=h_ h;cases hi:v.is p with
 |false =>
  rw[show v.read p=(0,2,v) by unfold PVw.read;rw[if_pos hi]]
  rw[hi] at HI;clear h;go_enter Tryz.func185,Tryz.ntmps185;go_wp2_with (go_at_call 218;refine(HI.o _ (Only.refl _ _)).mono ?_;rintro e w1 ⟨rfl,rfl⟩);go_ret2;exact⟨rfl,H.o⟩
 |true =>
  have hlt:=(PVw.is_lt hi).2;rw[hi] at HI;obtain⟨lb,G,c1,l1,h1,h2⟩:=vwH_log h;have HL:=h_ (lv_get ω w _ lb v.logs h1 ho.logs p);have HB:Hid (∀w1,Sat ω w1 (lvH lb v.logs*(G*F))→Sat ω w1 (vwH b v*F)):=h_ (fun w1 h3=>h2 w1 v.logs F h3)
  unfold pV at c1;cases hg:v.logs.get p with
  |some x =>
   rw[show v.read p=(x,0,v) by unfold PVw.read;rw[if_neg (by simp[hi]),hg]]
   rw[hg] at HL;simp only[Option.getD_some,Option.isSome_some] at HL;clear h h1 h2 ho hi hg hlt;go_enter Tryz.func185,Tryz.ntmps185;go_wp2_with (first
    |(go_at_call 218;refine(HI.o _ (Only.refl _ _)).mono ?_;rintro e w1 ⟨rfl,rfl⟩)
    |(go_at_call 219;refine(HL.o).mono ?_;rintro e w1 ⟨rfl,hx⟩;have HS:=h_ (HB.o _ hx);clear hx))
   go_ret2;exact⟨rfl,HS.o⟩
  |none =>
   rw[hg] at HL;simp only[Option.getD_none,Option.isSome_none] at HL;have HC:Hid (∀w1,Sat ω w1 (vwH b v*F)→∃g fc,VwC w1 b g fc v.facts.length p (v.facts.getD p none)):=h_ (fun w1 h3=>vw_fact h3 hlt)
   have HN:Hid (∀w1,Sat ω w1 (vwH b v*F)→Sat ω (w1.setCell ⟨b,3,none⟩ (.int .i64 p)) (vwH b { v with need:=p }*F)):=h_ (fun w1 h3=>vw_setNeed h3 p)
   cases hf:v.facts.getD p none with
   |some x =>
    rw[show v.read p=(x,0,v) by unfold PVw.read;rw[if_neg (by simp[hi]),hg];simp only;rw[hf]]
    rw[hf] at HC;generalize v.facts.length=n at *
    clear h h1 h2 ho hi hg hf HN;go_enter Tryz.func185,Tryz.ntmps185;go_wp2_with (first
     |(go_at_call 218;refine(HI.o _ (Only.refl _ _)).mono ?_;rintro e w1 ⟨rfl,rfl⟩)
     |(go_at_call 219;refine(HL.o).mono ?_;rintro e w1 ⟨rfl,hx⟩;have hy:=HB.o _ hx;obtain⟨g,fc,d1,d2,d3,d4,d5,d6,d7,⟨u,d8⟩⟩:=HC.o _ hy;simp only[Option.getD_some,Option.isSome_some] at d2 d3;have HS:=h_ hy;clear hx hy))
    go_ret2;exact⟨rfl,HS.o.junk _⟩
   |none =>
    rw[show v.read p=(0,11,{ v with need:=p }) by unfold PVw.read;rw[if_neg (by simp[hi]),hg];simp only;rw[hf]]
    rw[hf] at HC;generalize v.facts.length=n at *
    clear h h1 h2 ho hi hg hf;go_enter Tryz.func185,Tryz.ntmps185;go_wp2_with (first
     |(go_at_call 218;refine(HI.o _ (Only.refl _ _)).mono ?_;rintro e w1 ⟨rfl,rfl⟩)
     |(go_at_call 219;refine(HL.o).mono ?_;rintro e w1 ⟨rfl,hx⟩;have hy:=HB.o _ hx;obtain⟨g,fc,d1,d2,d3,d4,d5,d6,d7,⟨u,d8⟩⟩:=HC.o _ hy;simp only[Option.getD_none,Option.isSome_none] at d2 d3;have HS:=h_ hy;clear hx hy))
    go_ret2;exact⟨rfl,HN.o _ HS.o |>.junk _⟩
theorem vFa_set:∀(l:List (Option Nat)) (i x:Nat),i<l.length→((vFa l).set (i*2) (.int .u64 x)).set (i*2+1) (.bool true)=vFa (l.set i (some x))
 | [],i,x,h=>absurd h (by simp)
 |o::l,0,x,_=>by simp[vFa,faV]
 |o::l,i+1,x,h=>by
  have:=vFa_set l i x (by simpa using h)
  simp only[vFa,List.flatMap_cons,faV,List.cons_append,List.nil_append,Nat.succ_mul,List.set_cons_succ] at this ⊢;rw[this]
theorem vw_know (ω w:World)(F:HP)(b:Nat)(v:PVw)(h:Sat ω w (vwH b v*F))(ho:v.ok)(p x:Nat):
  Calls Tryz.prog 197 #[.pointer (some ⟨b,0,none⟩),.int .i64 p,.int .u64 x] w (Rets ω F (.int .i64 ((v.know p x).1:Int)) (vwH b (v.know p x).2)):=by
 have HI:=vw_isQ h p;have H:=h_ h;cases hi:v.is p with
 |false =>
  rw[show v.know p x=(2,v) by unfold PVw.know;rw[if_pos hi]]
  rw[hi] at HI;clear h;go_enter Tryz.func197,Tryz.ntmps197;go_wp2_with (go_at_call 218;refine(HI.o _ (Only.refl _ _)).mono ?_;rintro e w1 ⟨rfl,rfl⟩);go_ret;exact⟨rfl,H.o⟩
 |true =>
  have hlt:=(PVw.is_lt hi).2;rw[hi] at HI;cases hf:v.facts.getD p none with
  |some y =>
   obtain⟨g,fc,d1,d2,d3,d4,d5,d6,d7,_⟩:=vw_fact h hlt;rw[hf] at d2 d3;simp only[Option.getD_some,Option.isSome_some] at d2 d3;rw[show v.know p x=(if y≠x then 14 else 0,v) by unfold PVw.know;rw[if_neg (by simp[hi])];rw[hf]]
   generalize v.facts.length=n at *
   clear h hi hf ho;by_cases hyx:y=x
   ·subst hyx;rw[if_neg (by simp)]
    go_enter Tryz.func197,Tryz.ntmps197;go_wp2_with (go_at_call 218;refine(HI.o _ (Only.refl _ _)).mono ?_;rintro e w1 ⟨rfl,rfl⟩);go_ret;exact⟨rfl,H.o.junk _⟩
   ·rw[if_pos hyx];have e1:((y:Int) != (x:Int))=true:=by simp;omega
    have e2:((y:Int)==(x:Int))=false:=by simp;omega
    clear hyx;go_enter Tryz.func197,Tryz.ntmps197;go_wp2_with (go_at_call 218;refine(HI.o _ (Only.refl _ _)).mono ?_;rintro e w1 ⟨rfl,rfl⟩);go_ret;exact⟨rfl,H.o.junk _⟩
  |none =>
   obtain⟨lb,fA,fc,oA,oc,hx⟩:=vwH_of h;unfold vwX at hx;have h1:=hx.assoc;have h2:=h1.right.assoc;obtain⟨g,rfl,d5,hc⟩:=h2.rowAt (l:=v.facts) (f:=faV) (fun _=>rfl) none (i:=p) hlt
   have d1:=h1.blk.c 0;have d9:=h1.blk.c 1;have d2:w.cell? ⟨g,p*2,none⟩=some (.int .u64 0):=by have:=hc 0 (by omega);rw[hf] at this;exact this
   have d3:w.cell? ⟨g,p*2+1,none⟩=some (.bool false):=by have:=hc 1 (by omega);rw[hf] at this;exact this
   have d4:=h1.blk.lt;have d6:=h1.blk.frozen;have d7:∀j,w.frozen? ⟨g,j,none⟩=false:=by
    rcases h2.cases with⟨h9,_⟩|⟨g',_,_,h9,_,_,_,_,_,h10⟩
    ·cases h9
    ·injection h9 with h9 _ _
     injection h9 with h9
     injection h9 with h9
     subst h9;exact h10.blk.frozen
   have d8:g≠b:=by
    rcases h2.cases with⟨h9,_⟩|⟨g',cap,cur,h9,_,_,_,_,h10,_⟩
    ·cases h9
    ·have hh:Sat ω w (row 267 2 (.slice (some ⟨g,0,none⟩) v.facts.length fc) v.facts.length (vFa v.facts)*(bk b 251 #[.slice (some ⟨g,0,none⟩) v.facts.length fc,.slice oA v.order.length oc,pV lb,.int .i64 v.need]*(row 3 1 (.slice oA v.order.length oc) v.order.length (vI v.order)*lvH lb v.logs*F))):=hx.perm (by ac_rfl)
     rcases hh.cases with⟨h8,_⟩|⟨g2,_,_,h8,_,_,_,_,_,h11⟩
     ·cases h8
     ·injection h8 with h8 _ _
      injection h8 with h8
      injection h8 with h8
      subst h8;exact h11.ne
   rw[show v.know p x=(0,{ v with facts:=v.facts.set p (some x),order:=v.order++[p] }) by unfold PVw.know;rw[if_neg (by simp[hi])];rw[hf]]
   have hm:v.order.length≤256:=Nat.le_trans ho.order ho.facts;obtain⟨i0,hi0,hz⟩:=Option.map_eq_some_iff.1 infoInt_;simp only[Prod.mk.injEq] at hz;obtain⟨hz0,hz1,hz2⟩:=hz;have HIF:=h_ hi0;have HZ0:=h_ hz0;have HZ1:=h_ hz1;have HZ2:=h_ hz2;have HON:Hid (∀u∈[Value.int .i64 p],u.oneCell'=true):=h_ (by intro u hu;simp at hu;subst hu;rfl)
   obtain⟨G,hG⟩:∃G,G=row 267 2 (.slice (some ⟨g,0,none⟩) v.facts.length fc) v.facts.length (vFa (v.facts.set p (some x)))*(lvH lb v.logs*F):=⟨_,rfl⟩;obtain⟨m,hmm⟩:∃m,v.order.length=m:=⟨_,rfl⟩;have HW:Hid (Sat ω ((w.setCell ⟨g,p*2,none⟩ (.int .u64 x)).setCell ⟨g,p*2+1,none⟩ (.bool true)) (row 3 1 (.slice oA m oc) m (vI v.order)*(bk b 251 #[.slice (some ⟨g,0,none⟩) v.facts.length fc,.slice oA m oc,pV lb,.int .i64 v.need]*G))):=h_ (by
    have h3:Sat ω w (row 267 2 (.slice (some ⟨g,0,none⟩) v.facts.length fc) v.facts.length (vFa v.facts)*(bk b 251 #[.slice (some ⟨g,0,none⟩) v.facts.length fc,.slice oA v.order.length oc,pV lb,.int .i64 v.need]*(row 3 1 (.slice oA v.order.length oc) v.order.length (vI v.order)*(lvH lb v.logs*F)))):=hx.perm (by ac_rfl)
    have h4:=(h3.rowStore (j:=p*2) (by omega) (.int .u64 x)).rowStore (j:=p*2+1) (by omega) (.bool true)
    rw[vFa_set _ _ _ hlt,hmm] at h4;rw[hG];exact h4.perm (by ac_rfl))
   have HRD:Hid (∀(w1:World) q,w1.heap.size=q→Reads (w1.alloc (.cells #[.int .i64 p] 3)) (q+1) 1 (some ⟨q,0,none⟩) 1 [.int .i64 p]):=h_ (fun w1 q hq=>by
    have h9:=Reads.of_blk (size:=1) (n:=1) (Blk.new w1 3 #[.int .i64 p]) rfl;rw[World.size_alloc] at h9;subst hq;exact h9)
   have HFI:Hid (∀w2 A' c',Sat ω w2 (row 3 1 (.slice A' (m+1) c') (m+1) (vI v.order++[.int .i64 p])*(bk b 251 #[.slice (some ⟨g,0,none⟩) v.facts.length fc,.slice A' (m+1) c',pV lb,.int .i64 v.need]*G))→Sat ω w2 (vwH b { v with facts:=v.facts.set p (some x),order:=v.order++[p] }*F)):=h_ (fun w2 A' c' h2=>by
    refine vwH_to (v:={ v with facts:=v.facts.set p (some x),order:=v.order++[p] }) (lb:=lb) (fA:=some ⟨g,0,none⟩) (fc:=fc) (oA:=A') (oc:=c') ?_
    unfold vwX;simp only[List.length_set,List.length_append,List.length_singleton,hmm,vI_snoc];rw[hG] at h2;exact h2.perm (by ac_rfl))
   rw[hmm] at hm d9;generalize v.facts.length=n at *
   clear h hx h1 h2 hc hi hf ho hG hmm hi0 hz0 hz1 hz2;go_enter Tryz.func197,Tryz.ntmps197;go_wp2_with (first
    |(go_at_call 218;refine(HI.o _ (Only.refl _ _)).mono ?_;rintro e w1 ⟨rfl,rfl⟩)
    |(at_builtin;refine wpList_append_sat rfl _ _ 50 rfl 3 i0 _ 1 8 Tryz.underlying50 HIF.o HZ0.o HZ1.o HZ2.o rfl (by decide) _ _ _ rfl ((HW.o.junk _).junk _) _ _ _ _ _ rfl (HRD.o _ _ (by simp)) HON.o (by unfold maxLen;omega) (by omega) ?_;intro A' c' w2 hs;have kb:=hs.right.blk;have q1:=kb.cell 1;have qf:=kb.frozen;have ql:=kb.lt;have HS:=h_ (hs.swap.put 1 (.slice A' (m+1) c') (cs':=#[.slice (some ⟨g,0,none⟩) n fc,.slice A' (m+1) c',pV lb,.int .i64 v.need]) rfl).swap;clear hs kb))
   go_ret;exact⟨rfl,HFI.o _ _ _ HS.o⟩
theorem Sat.made {ω w w':World}{F:HP}{e:TypeId}{size n m:Nat}{xs:List Value}(h:Sat ω w F)(ho:w'.ownsRow 0 e size (.slice (some ⟨w.heap.size,0,none⟩) n m) n xs)(hg:w.grownBy w' none):Sat ω w' (row e size (.slice (some ⟨w.heap.size,0,none⟩) n m) n xs*F) :=
 (h.nil e size).grown (v':=.slice (some ⟨w.heap.size,0,none⟩) n m) (n':=n) (xs':=xs) hg (Or.inr rfl) ho
def knownK (v:PVw)(k:Nat):List (Nat×Nat):=(v.order.take k).map fun p=>(p,(v.facts.getD p none).getD 0)
theorem knownK_step (v:PVw){k:Nat}(hk:k<v.order.length):knownK v (k+1)=knownK v k++[(v.order.getD k 0,(v.facts.getD (v.order.getD k 0) none).getD 0)]:=by
 unfold knownK;rw[List.take_succ_eq_append_getElem hk,List.map_append,gD (l:=v.order),List.getElem?_eq_getElem hk];rfl
theorem knownK_all (v:PVw):knownK v v.order.length=v.known:=by
 unfold knownK PVw.known;rw[List.take_length]
theorem vw_known (ω w:World)(F:HP)(b:Nat)(v:PVw)(h:Sat ω w (vwH b v*F))(ho:v.ok):
  Calls Tryz.prog 146 #[.pointer (some ⟨b,0,none⟩)] w (RetR ω (vwH b v*F) 54 2 v.known.length (vS v.known)):=by
 have H:=h_ h;obtain⟨N,hN⟩:∃N,v.order.length=N:=⟨_,rfl⟩;have hN6:N≤256:=by have:=ho.order;have:=ho.facts;omega
 obtain⟨lb,fA,fc,oA,oc,hx⟩:=vwH_of h;unfold vwX at hx;have c1:w.cell? ⟨b,1,none⟩=some (.slice oA N oc):=hN▸hx.assoc.blk.cell 1;have l1:=hx.assoc.blk.lt;have HX:Hid (Sat ω w (bk b 251 #[.slice fA v.facts.length fc,.slice oA N oc,pV lb,.int .i64 v.need]*(row 267 2 (.slice fA v.facts.length fc) v.facts.length (vFa v.facts)*(row 3 1 (.slice oA N oc) N (vI v.order)*(lvH lb v.logs*F))))):=h_ (hN▸hx.perm (by ac_rfl))
 have HB:Hid (∀w1 R,Sat ω w1 (R*(bk b 251 #[.slice fA v.facts.length fc,.slice oA N oc,pV lb,.int .i64 v.need]*(row 267 2 (.slice fA v.facts.length fc) v.facts.length (vFa v.facts)*(row 3 1 (.slice oA N oc) N (vI v.order)*(lvH lb v.logs*F)))))→Sat ω w1 (R*(vwH b v*F))):=h_ (fun w1 R h1=>by
  rw[←hN] at h1;exact(vwH_to (v:=v) (lb:=lb) (fA:=fA) (fc:=fc) (oA:=oA) (oc:=oc) (F:=R*F) (h1.perm (by unfold vwX;ac_rfl))).swap)
 have HRW:Hid (∀w1 R (k:Nat),Sat ω w1 (R*(bk b 251 #[.slice fA v.facts.length fc,.slice oA N oc,pV lb,.int .i64 v.need]*(row 267 2 (.slice fA v.facts.length fc) v.facts.length (vFa v.facts)*(row 3 1 (.slice oA N oc) N (vI v.order)*(lvH lb v.logs*F)))))→k<N→∃go gf,oA=some ⟨go,0,none⟩∧fA=some ⟨gf,0,none⟩∧go<w1.heap.size∧gf<w1.heap.size∧b<w1.heap.size∧w1.cell? ⟨b,0,none⟩=some (.slice (some ⟨gf,0,none⟩) v.facts.length fc)∧w1.cell? ⟨go,k,none⟩=some (.int .i64 ((v.order.getD k 0:Nat):Int))∧w1.cell? ⟨gf,v.order.getD k 0*2,none⟩=some (.int .u64 (((v.facts.getD (v.order.getD k 0) none).getD 0:Nat):Int))∧v.order.getD k 0<v.facts.length):=h_ (fun w1 R k h1 hk=>by
  have hk':k<v.order.length:=hN▸hk;have hp:v.order.getD k 0<v.facts.length:=by
   rw[gD,List.getElem?_eq_getElem hk'];exact ho.places _ (List.getElem_mem hk')
  have h2:=h1.right;have h3:=h2.right;have h4:=h3.right;rw[←hN] at h4;obtain⟨go,e1,lgo,hc1⟩:=h4.rowAt (l:=v.order) (f:=inV) (fun _=>rfl) 0 (i:=k) hk'
  obtain⟨gf,e2,lgf,hc2⟩:=h3.rowAt (l:=v.facts) (f:=faV) (fun _=>rfl) none (i:=v.order.getD k 0) hp
  have h5:=hc1 0 (by omega)
  rw[Nat.mul_one,Nat.add_zero] at h5;have h6:=h2.blk.cell 0;subst e2;exact⟨go,gf,e1,rfl,lgo,lgf,h2.blk.lt,h6,h5,hc2 0 (by omega),hp⟩)
 have HOO:Hid (∀w1 R,Sat ω w1 (R*(bk b 251 #[.slice fA v.facts.length fc,.slice oA N oc,pV lb,.int .i64 v.need]*(row 267 2 (.slice fA v.facts.length fc) v.facts.length (vFa v.facts)*(row 3 1 (.slice oA N oc) N (vI v.order)*(lvH lb v.logs*F)))))→w1.cell? ⟨b,1,none⟩=some (.slice oA N oc)∧b<w1.heap.size):=h_ (fun w1 R h1=>⟨h1.right.blk.cell 1,h1.right.blk.lt⟩)
 have HKS:Hid (∀k,k<N→knownK v (k+1)=knownK v k++[(v.order.getD k 0,(v.facts.getD (v.order.getD k 0) none).getD 0)]):=h_ (fun k hk=>knownK_step v (hN▸hk))
 have HKL:Hid (v.known=knownK v N∧v.known.length=N):=h_ (by
  rw[←hN];exact⟨(knownK_all v).symm,by unfold PVw.known;rw[List.length_map]⟩)
 obtain⟨i0,hi0,hz⟩:=Option.map_eq_some_iff.1 infoCell_;simp only[Prod.mk.injEq] at hz;obtain⟨hz0,hz1,hz2⟩:=hz;have HI:=h_ hi0;have HZ0:=h_ hz0;have HZ1:=h_ hz1;have HZ2:=h_ hz2;have hby:i0.bytes*N≤281474976710656:=by rw[hz2];omega
 rw[HKL.o.2,HKL.o.1];generalize v.facts.length=n at *
 generalize bk b 251 #[.slice fA n fc,.slice oA N oc,pV lb,.int .i64 v.need]*(row 267 2 (.slice fA n fc) n (vFa v.facts)*(row 3 1 (.slice oA N oc) N (vI v.order)*(lvH lb v.logs*F)))=G at *
 clear h hx ho hN hi0 hz0 hz1 hz2 HKL H;go_enter Tryz.func146,Tryz.ntmps146;go_wp2_with (at_make;refine wpList_make_own _ rfl _ _ 49 rfl 0 54 i0 _ 2 Tryz.underlying49 HI.o HZ0.o HZ1.o _ _ _ N rfl rfl (by omega) hby (by unfold maxLen;omega) (by omega) ?_;intro w1 hown hgrow;have hs:=HX.o.made hown hgrow;obtain⟨m1,m2⟩:=HOO.o _ _ hs;have HS:=h_ hs;clear hown hgrow hs)
 clear c1 l1 HX HOO m1 m2;have H0:Hid (knownK v 0=[]):=h_ rfl;go_loopw [3,17] (fun s i wr=>∃(k:Nat) (A2:Option Addr) (c2:Nat),k≤N∧i=.int .i64 k∧s=.slice A2 k c2∧Hid (Sat ω wr (row 54 2 (.slice A2 k c2) k (vS (knownK v k))*G))) (fun _ i _=>N-(intOf i).toNat)
 case atStart=>exact⟨0,_,_,by omega,rfl,rfl,HS.o⟩
 case round =>
  obtain⟨k,A2,c2,hk,rfl,rfl,HX⟩:=hrel;by_cases hlt:k<N
  ·obtain⟨go,gf,rfl,rfl,r1,r2,r3,r4,r5,r6,r7⟩:=HRW.o _ _ k HX.o hlt;have HS1:=h_ (HKS.o k hlt);generalize v.order.getD k 0=p at *
   generalize (v.facts.getD p none).getD 0=x at *
   have HAP:Hid (∀o,Sat ω (wr.alloc o) (row 54 2 (.slice A2 k c2) k (vS (knownK v k))*G)):=h_ (fun o=>HX.o.junk o)
   have HRD:Hid (Reads (wr.alloc (.cells #[.int .i64 p,.int .u64 x] 54)) (wr.heap.size+1) 2 (some ⟨wr.heap.size,0,none⟩) 1 [.int .i64 p,.int .u64 x]):=h_ (by
    have h9:=Reads.of_blk (size:=2) (n:=1) (Blk.new wr 54 #[.int .i64 p,.int .u64 x]) rfl;rw[World.size_alloc] at h9;exact h9)
   have HON:Hid (∀u∈[Value.int .i64 p,.int .u64 x],u.oneCell'=true):=h_ (by intro u hu;simp at hu;rcases hu with rfl|rfl<;>rfl)
   have HSN:Hid (vS (knownK v k)++[Value.int .i64 p,.int .u64 x]=vS (knownK v (k+1))):=h_ (by rw[HS1.o,vS_snoc])
   go_wp2_with (at_builtin;refine wpList_append_sat rfl _ _ 49 rfl 54 i0 _ 2 16 Tryz.underlying49 HI.o HZ0.o HZ1.o HZ2.o rfl (by decide) _ _ _ rfl (HAP.o _) _ _ _ _ _ rfl HRD.o HON.o (by unfold maxLen;omega) (by omega) ?_;intro A' c' w2 hs;rw[HSN.o] at hs;have HS:=h_ hs;clear hs)
   exact⟨⟨k+1,A',c',by omega,by go_num,rfl,HS.o⟩,by simp[intOf];omega⟩
  ·obtain rfl:k=N:=by omega
   go_wp2;go_ret;exact⟨_,_,rfl,HB.o _ _ HX.o⟩
section
section
variable {P : Program}
theorem step_make_sat {ω w:World}{F:HP}{ops:Array Oper}{o:Oper}{a:Act}{K:Act→World→Prop}{Q:Exit→Act→World→Prop}{E:Prop}(hgd:o.guard=none)(l c:Operand)(t:TypeId)(hop:o.op=Op.makeSlice t l c)
  (e:TypeId) (i:TypeInfo) (z:Value) (size:Nat) (h1:P.underlying t=some (.slice e)) (h2:P.info? e=some i) (h3:i.zero=some z) (h4:i.size=size)
  (kl kc:IntKind) (L C:Int) (n:Nat) (hl:a.eval l=.int kl L) (hc:a.eval c=.int kc C) (hL:L=(n:Int)) (hC:C=(n:Int)) (b2:i.bytes*n≤281474976710656) (b3:n≤maxLen) (hs:Sat ω w F)
  (hK:∀w',Sat ω w' (row e size (.slice (some ⟨w.heap.size,0,none⟩) n n) n (madeCells z.cells (n*size)).toList*F)→K (a.put o.dst (.slice (some ⟨w.heap.size,0,none⟩) n n)) w'):
  if Region.wanted o (yielded ops a.tmps)=true then Oper.wp P o a w K Q else E:=by
 have hw:Region.wanted o (yielded ops a.tmps)=true:=by simp[Region.wanted,hgd]
 rw[if_pos hw];obtain⟨w',hrun,r1,r2⟩:=run_make_full (P:=P) w 0 t e i z size h1 h2 h3 h4 kl kc n b2 b3 (Nat.zero_le _);subst hL;subst hC;unfold Oper.wp;simp[execOp,hop,hl,hc,hrun,Result.andThen];exact hK w' (hs.made r1 r2)
end
theorem made_facts (n:Nat):(madeCells #[Value.int .u64 0,.bool false] (n*2)).toList=vFa (List.replicate n none):=by
 apply List.ext_getElem?;intro k;have hk:k=k / 2*2+k%2:=by omega
 rcases Nat.lt_or_ge k (n*2) with h|h
 ·have h1:=flat_at faV 2 (fun _=>rfl) none (List.replicate n none) (k / 2) (k%2) (by rw[List.length_replicate];omega) (by omega)
  rw[←hk] at h1;unfold vFa;rw[h1];have h2:(List.replicate n (none:Option Nat)).getD (k / 2) none=none:=by
   rw[gD,List.getElem?_replicate];split<;>rfl
  rw[h2];rcases(by omega:k%2=0∨k%2=1) with e|e<;>simp[madeCells,h,e,faV]
 ·rw[List.getElem?_eq_none (by simp[madeCells];omega),List.getElem?_eq_none]
  have:(vFa (List.replicate n none)).length=n*2:=by
   unfold vFa;rw[List.length_flatMap];simp[faV]
  omega
theorem infoFact_:(Tryz.prog.info? 267).map (fun i=>(i.zero,i.size,i.bytes))=some (some (.agg #[.int .u64 0,.bool false]),2,16):=by kernel_rfl
theorem vw_new (ω w:World)(F:HP)(h:Sat ω w F)(words most:Nat):
  Calls Tryz.prog 150 #[.int .i64 words,.int .i64 most] w (RetP ω F fun b=>vwH b (PVw.new words most)):=by
 obtain⟨n,hn⟩:∃n,max 32 (min words 256)=n:=⟨_,rfl⟩;have hnI:max (32:Int) (min (words:Int) 256)=(n:Int):=by omega
 have hn6:n≤256:=by omega
 obtain⟨i0,hi0,hz⟩:=Option.map_eq_some_iff.1 infoFact_;simp only[Prod.mk.injEq] at hz;obtain⟨hz0,hz1,hz2⟩:=hz;have HIF:=h_ hi0;have HZ0:=h_ hz0;have HZ1:=h_ hz1;have hby:i0.bytes*n≤281474976710656:=by rw[hz2];omega
 have H:=h_ h;have HN:=h_ (fun(w:World) (F:HP) (h:Sat ω w F)=>lv_new ω w F h most)
 have HMF:Hid (∀w1 g F',Sat ω w1 (row 267 2 (.slice (some ⟨g,0,none⟩) n n) n (madeCells (Value.agg #[.int .u64 0,.bool false]).cells (n*2)).toList*F')→Sat ω w1 (row 267 2 (.slice (some ⟨g,0,none⟩) n n) n (vFa (List.replicate n none))*F')):=h_ (fun w1 g F' h1=>by
  have e:(Value.agg #[.int .u64 0,.bool false]).cells=#[Value.int .u64 0,.bool false]:=rfl;rw[e,made_facts] at h1;exact h1)
 have HFI:Hid (∀w1 g lb,Sat ω w1 (lvH lb (PLv.new most)*(row 267 2 (.slice (some ⟨g,0,none⟩) n n) n (vFa (List.replicate n none))*F))→Sat ω (w1.alloc (.cells #[.slice (some ⟨g,0,none⟩) n n,.slice none 0 0,.pointer (some ⟨lb,0,none⟩),.int .i64 0] 251)) (vwH w1.heap.size (PVw.new words most)*F)):=h_ (fun w1 g lb h1=>by
  have h2:=((h1.nil 3 1).bkNew (t:=251) (cs:=#[.slice (some ⟨g,0,none⟩) n n,.slice none 0 0,.pointer (some ⟨lb,0,none⟩),.int .i64 0]) rfl);refine vwH_to (v:=PVw.new words most) (lb:=lb) (fA:=some ⟨g,0,none⟩) (fc:=n) (oA:=none) (oc:=0) ?_;unfold vwX PVw.new;simp only[List.length_replicate,hn,List.length_nil];exact h2.perm (by
   have e:vI []=[]:=rfl;rw[e];unfold pV;ac_rfl))
 clear h hi0 hz0 hz1 hz2 hn;go_enter Tryz.func150,Tryz.ntmps150;go_wp2;refine wp_region_any (by kernel_rfl) ?_
 try (change wpAny _ _ _ _ _ _ _ (World.drew _))
 refine tF 0 ?_ rfl ?_ (tF 4 ?_ rfl ?_ (tF 1 ?_ rfl ?_ (tF 2 ?_ rfl ?_ ?_)));all_goals (try (
  intro w;go_simp<;>(try with_reducible rfl)))
 refine rF [3,5] ?_;refine AllReady.cons rfl (fun K hK=>?_) ?_
 ·refine step_make_sat rfl _ _ 248 rfl 267 i0 _ 2 Tryz.underlying248 HIF.o HZ0.o HZ1.o _ _ _ _ n rfl rfl rfl rfl hby (by unfold maxLen;omega) H.o.drew ?_;intro w2 hs;have HM:=h_ (HMF.o _ _ _ hs);clear hs
  refine hK _ _ ?_;clear hK K;refine oF 5 rfl fun K hK=>?_
  go_simp;go_at_call 175;refine(HN.o _ _ HM.o).mono ?_;rintro e w1 ⟨lb,rfl,hx⟩;have HL:=h_ hx;clear hx;refine hK _ _ ?_;clear hK K;refine tF 6 ?_ rfl ?_ ?_;all_goals (try (
   intro w;go_simp<;>(try with_reducible rfl)))
  refine oF 7 rfl fun K hK=>?_
  go_simp;refine hK _ _ ?_;clear hK K;refine tF 8 ?_ rfl ?_ ?_;all_goals (try (
   intro w;go_simp<;>(try with_reducible rfl)))
  refine dF ?_;go_wp2;go_ret;exact⟨_,rfl,HFI.o _ _ _ HL.o⟩
 refine nF rfl fun K hK=>?_
 ·go_simp;go_at_call 175;refine(HN.o _ _ H.o.drew).mono ?_;rintro e w1 ⟨lb,rfl,hx⟩;have HL:=h_ hx;clear hx;refine hK _ _ ?_;clear hK K;refine oF 3 rfl fun K hK=>?_
  refine step_make_sat rfl _ _ 248 rfl 267 i0 _ 2 Tryz.underlying248 HIF.o HZ0.o HZ1.o _ _ _ _ n rfl rfl rfl rfl hby (by unfold maxLen;omega) HL.o ?_;intro w2 hs;have HM:=h_ (HMF.o _ _ _ hs);clear hs
  refine hK _ _ ?_;clear hK K;refine tF 6 ?_ rfl ?_ ?_;all_goals (try (
   intro w;go_simp<;>(try with_reducible rfl)))
  refine oF 7 rfl fun K hK=>?_
  go_simp;refine hK _ _ ?_;clear hK K;refine tF 8 ?_ rfl ?_ ?_;all_goals (try (
   intro w;go_simp<;>(try with_reducible rfl)))
  refine dF ?_;go_wp2;go_ret;exact⟨_,rfl,HFI.o _ _ _ HM.o.swap⟩
end
section
variable (ω w : World) (F : HP)
def rdH (b:Nat)(l:List (Nat×Nat)):HP:=ex fun A=>ex fun c=>bk b 234 #[.int .i64 16,.slice A l.length c]*row 148 2 (.slice A l.length c) l.length (vS l)
theorem rdH_of {ω w:World}{F:HP}{b:Nat}{l:List (Nat×Nat)}(h:Sat ω w (rdH b l*F)):∃A c,Sat ω w (bk b 234 #[.int .i64 16,.slice A l.length c]*(row 148 2 (.slice A l.length c) l.length (vS l)*F)):=by
 obtain⟨A,h⟩:=h.of_ex;obtain⟨c,h⟩:=h.of_ex;exact⟨A,c,h.assoc⟩
theorem rdH_to {ω w:World}{F:HP}{b:Nat}{l:List (Nat×Nat)}{A:Option Addr}{c:Nat}(h:Sat ω w (bk b 234 #[.int .i64 16,.slice A l.length c]*(row 148 2 (.slice A l.length c) l.length (vS l)*F))):Sat ω w (rdH b l*F) :=
 Sat.to_ex A (h.assoc'.impL fun y hy=>⟨c,hy⟩)
theorem rd_new (h:Sat ω w F):
  Calls Tryz.prog 151 #[.int .i64 16] w (RetP ω F fun b=>rdH b []):=by
 have H:=h_ h;clear h;go_enter Tryz.func151,Tryz.ntmps151;go_wp2;go_ret;exact⟨_,rfl,rdH_to (A:=none) (c:=0) ((H.o.nil 148 2).bkNew rfl)⟩
theorem rdGet_hit {l:List (Nat×Nat)}{s k:Nat}(hk:k<l.length)(h:∀j,j<k→(l.getD j (0,0)).1≠s)(hs:(l.getD k (0,0)).1=s):rdGet l s=some (l.getD k (0,0)).2:=by
 unfold rdGet;have e:l.find? (·.1==s)=some (l.getD k (0,0)):=by
  rw[List.find?_eq_some_iff_getElem];refine⟨by simpa using hs,k,hk,?_,fun j hj=>?_⟩
  ·rw[gD,List.getElem?_eq_getElem hk];rfl
  ·have:=h j hj
   rw[gD,List.getElem?_eq_getElem (by omega)] at this
   simpa using this
 rw[e];rfl
theorem rdGet_miss {l:List (Nat×Nat)}{s:Nat}(h:∀j,j<l.length→(l.getD j (0,0)).1≠s):rdGet l s=none:=by
 unfold rdGet;have e:l.find? (·.1==s)=none:=by
  rw[List.find?_eq_none];intro x hx;obtain⟨j,hj,rfl⟩:=List.mem_iff_getElem.1 hx
  have:=h j hj
  rw[gD,List.getElem?_eq_getElem hj] at this;simpa using this
 rw[e];rfl
theorem rd_get (b:Nat)(l:List (Nat×Nat))(h:Sat ω w (rdH b l*F))(hl:l.length≤1000)(s:Nat):
  Calls Tryz.prog 225 #[.pointer (some ⟨b,0,none⟩),.int .i64 s] w fun e w'=>e=.returned (.tuple #[.int .u64 (((rdGet l s).getD 0:Nat):Int),.bool (rdGet l s).isSome])∧Only Nob w w':=by
 obtain⟨A,c,h⟩:=rdH_of h;obtain⟨N,hN⟩:∃N,l.length=N:=⟨_,rfl⟩;have c1:w.cell? ⟨b,1,none⟩=some (.slice A N c):=hN▸h.blk.cell 1;have l1:=h.blk.lt;have HRW:Hid (∀w1 (k:Nat),Only Nob w w1→k<N→∃g,A=some ⟨g,0,none⟩∧g<w1.heap.size∧w1.cell? ⟨g,k*2,none⟩=some (.int .i64 ((l.getD k (0,0)).1:Int))∧w1.cell? ⟨g,k*2+1,none⟩=some (.int .u64 ((l.getD k (0,0)).2:Int))):=h_ (fun w1 k ho hk=>by
  obtain⟨g,h5,h6,h7⟩:=(h.right.nob ho).rowAt (l:=l) (f:=seV) (fun _=>rfl) (0,0) (hN▸hk)
  exact⟨g,h5,h6,h7 0 (by omega),h7 1 (by omega)⟩)
 have HHI:Hid (∀k,k<N→(∀j,j<k→(l.getD j (0,0)).1≠s)→(l.getD k (0,0)).1=s→rdGet l s=some (l.getD k (0,0)).2):=h_ (fun k hk h1 h2=>rdGet_hit (hN▸hk) h1 h2)
 have HMI:Hid ((∀j,j<N→(l.getD j (0,0)).1≠s)→rdGet l s=none):=h_ (fun h1=>rdGet_miss (hN▸h1))
 rw[hN] at hl;generalize rdGet l s=R at *
 clear h hN;go_enter Tryz.func225,Tryz.ntmps225;go_wp2;go_loopw [7,13] (fun _ i wr=>∃k:Nat,k≤N∧i=.int .i64 k∧Hid (Only Nob w wr)∧Hid (∀j,j<k→(l.getD j (0,0)).1≠s)) (fun _ i _=>N-(intOf i).toNat)
 case atStart=>exact⟨0,by omega,rfl,Only.refl _ _,fun j hj=>absurd hj (by omega)⟩
 case round =>
  obtain⟨k,hk,rfl,HO,HP⟩:=hrel;by_cases hlt:k<N
  ·obtain⟨g,rfl,hg,r0,r1⟩:=HRW.o _ k HO.o hlt;have HX:=h_ (fun h2=>HHI.o k hlt HP.o h2)
   obtain⟨x1,hx1⟩:∃x1,(l.getD k (0,0)).1=x1:=⟨_,rfl⟩;obtain⟨x2,hx2⟩:∃x2,(l.getD k (0,0)).2=x2:=⟨_,rfl⟩;rw[hx1] at r0 HX;rw[hx2] at r1 HX;have HX1:=h_ hx1;clear hx1 hx2;by_cases he:x1=s
   ·have HE:=h_ (HX.o he);have d:((x1:Int)==(s:Int))=true:=by rw[beq_iff_eq];omega
    clear HX he;go_wp2;go_ret2;exact⟨by rw[HE.o];rfl,HO.o.alloc _⟩
   ·have HP2:Hid (∀j,j<k+1→(l.getD j (0,0)).1≠s):=h_ (fun j hj=>by
     rcases Nat.lt_or_ge j k with h1|h1
     ·exact HP.o j h1
     ·obtain rfl:j=k:=by omega
      rw[HX1.o];exact he)
    have d:((x1:Int)==(s:Int))=false:=by simp;omega
    clear he HX;go_wp2;exact⟨⟨k+1,by omega,by go_num,HO.o.alloc _,HP2.o⟩,by simp[intOf];omega⟩
  ·have HE:=h_ (HMI.o (fun j hj=>HP.o j (by omega)))
   go_wp2;go_ret2;exact⟨by rw[HE.o];rfl,HO.o⟩
theorem rd_all (b:Nat)(l:List (Nat×Nat))(h:Sat ω w (rdH b l*F))(hl:l.length≤1000):
  Calls Tryz.prog 105 #[.pointer (some ⟨b,0,none⟩)] w (RetR ω (rdH b l*F) 148 2 l.length (vS l)):=by
 obtain⟨A,c,h⟩:=rdH_of h;have c1:=h.blk.c 1;have lt:=h.blk.lt;have HX:Hid (Calls Tryz.prog 143 #[.slice A l.length c] w (RetR ω (row 148 2 (.slice A l.length c) l.length (vS l)*(bk b 234 #[.int .i64 16,.slice A l.length c]*F)) 148 2 l.length (vS l))):=h_ (cloneSeen ω w _ A l.length c (vS l) h.swap (by omega) (vS_one _))
 have HF:Hid (∀w1 A' c',Sat ω w1 (row 148 2 (.slice A' l.length c') l.length (vS l)*(row 148 2 (.slice A l.length c) l.length (vS l)*(bk b 234 #[.int .i64 16,.slice A l.length c]*F)))→Sat ω w1 (row 148 2 (.slice A' l.length c') l.length (vS l)*(rdH b l*F))):=h_ (fun w1 A' c' h1 =>
  (rdH_to (A:=A) (c:=c) (F:=row 148 2 (.slice A' l.length c') l.length (vS l)*F) (h1.perm (by ac_rfl))).swap)
 generalize l.length=N at *
 clear h;go_enter Tryz.func105,Tryz.ntmps105;go_wp2_with (go_at_call 143;refine(HX.o).mono ?_;rintro e w1 ⟨A',c',rfl,hs⟩;have HS:=h_ hs;clear hs);go_ret;exact⟨_,_,rfl,HF.o _ _ _ HS.o⟩
end
theorem rd_add (ω w:World)(F:HP)(b:Nat)(l:List (Nat×Nat))(h:Sat ω w (rdH b l*F))(hl:l.length≤16)(s v:Nat):
  Calls Tryz.prog 195 #[.pointer (some ⟨b,0,none⟩),.agg #[.int .i64 s,.int .u64 v]] w (Rets ω F (.int .i64 ((rdAdd l (s,v)).1:Int)) (rdH b (rdAdd l (s,v)).2)):=by
 have H:=h_ h;have d0:¬(s:Int)<0:=by omega
 obtain⟨X,hX⟩:∃X,X=rdAdd l (s,v):=⟨_,rfl⟩;rw[←hX];unfold rdAdd at hX;simp only at hX;by_cases h1:16≤s
 ·rw[if_pos (Or.inl h1)] at hX;have d1:(16:Int)≤(s:Int):=by omega
  subst hX;clear h h1;go_enter Tryz.func195,Tryz.ntmps195;go_wp2;go_ret;exact⟨rfl,H.o.junk _⟩
 have d1:¬(16:Int)≤(s:Int):=by omega
 by_cases h2:4611686018427387904≤v
 ·rw[if_pos (Or.inr h2)] at hX;have d2:(4611686018427387904:Int)≤(v:Int):=by omega
  subst hX;clear h h1 h2;go_enter Tryz.func195,Tryz.ntmps195;go_wp2;go_ret;exact⟨rfl,H.o.junk _⟩
 have d2:¬(4611686018427387904:Int)≤(v:Int):=by omega
 rw[if_neg (by omega)] at hX
 have HG:Hid (∀o,Calls Tryz.prog 225 #[.pointer (some ⟨b,0,none⟩),.int .i64 s] (w.alloc o) fun e w'=>e=.returned (.tuple #[.int .u64 (((rdGet l s).getD 0:Nat):Int),.bool (rdGet l s).isSome])∧Only Nob (w.alloc o) w'):=h_ (fun o=>rd_get ω _ F b l (h.junk o) (by omega) s)
 have HBX:Hid (∀w1,Only Nob (w.alloc (.cells #[.int .i64 s,.int .u64 v] 148)) w1→Sat ω w1 (bk w.heap.size 148 #[.int .i64 s,.int .u64 v]*(rdH b l*F))):=h_ (fun w1 ho=>((H.o.bkNew (t:=148) (cs:=#[.int .i64 s,.int .u64 v]) rfl).nob ho))
 have HXB:Hid (∀w1,Only Nob (w.alloc (.cells #[.int .i64 s,.int .u64 v] 148)) w1→w1.cell? ⟨w.heap.size,0,none⟩=some (.int .i64 s)∧w1.cell? ⟨w.heap.size,1,none⟩=some (.int .u64 v)∧w.heap.size<w1.heap.size):=h_ (fun w1 ho=>by
  have k:=(HBX.o w1 ho).blk;exact⟨k.cell 0,k.cell 1,k.lt⟩)
 cases hg:rdGet l s with
 |some y =>
  rw[hg] at hX HG;simp only[Option.getD_some,Option.isSome_some] at hX HG;by_cases hyv:y=v
  ·rw[if_neg (by omega)] at hX
   have e1:((y:Int) != (v:Int))=false:=by subst hyv;simp
   have e2:((y:Int)==(v:Int))=true:=by subst hyv;simp
   subst hX;clear h h1 h2 hg hyv;go_enter Tryz.func195,Tryz.ntmps195;go_wp2_with (go_at_call 225;refine(HG.o _).mono ?_;rintro e w1 ⟨rfl,ho⟩;obtain⟨q1,q2,q3⟩:=HXB.o _ ho;have HS:=h_ (HBX.o _ ho).right;clear ho);go_ret;exact⟨rfl,HS.o⟩
  ·rw[if_pos hyv] at hX;have e1:((y:Int) != (v:Int))=true:=by simp;omega
   have e2:((y:Int)==(v:Int))=false:=by simp;omega
   subst hX;clear h h1 h2 hg hyv;go_enter Tryz.func195,Tryz.ntmps195;go_wp2_with (go_at_call 225;refine(HG.o _).mono ?_;rintro e w1 ⟨rfl,ho⟩;obtain⟨q1,q2,q3⟩:=HXB.o _ ho;have HS:=h_ (HBX.o _ ho).right;clear ho);go_ret;exact⟨rfl,HS.o⟩
 |none =>
  rw[hg] at hX HG;simp only[Option.getD_none,Option.isSome_none] at hX HG;obtain⟨N,hN⟩:∃N,l.length=N:=⟨_,rfl⟩;have HOP:Hid (∀w1,Only Nob (w.alloc (.cells #[.int .i64 s,.int .u64 v] 148)) w1→∃A c,w1.cell? ⟨b,0,none⟩=some (.int .i64 16)∧w1.cell? ⟨b,1,none⟩=some (.slice A N c)∧b<w1.heap.size∧(∀j,w1.frozen? ⟨b,j,none⟩=false)∧Sat ω w1 (row 148 2 (.slice A N c) N (vS l)*(bk b 234 #[.int .i64 16,.slice A N c]*(bk w.heap.size 148 #[.int .i64 s,.int .u64 v]*F)))):=h_ (fun w1 ho=>by
   obtain⟨A,c,h9⟩:=rdH_of ((HBX.o w1 ho).swap);rw[hN] at h9;exact⟨A,c,h9.blk.cell 0,h9.blk.cell 1,h9.blk.lt,h9.blk.frozen,h9.perm (by ac_rfl)⟩)
  by_cases hf:l.length=16
  ·rw[if_pos hf] at hX;have hN16:N=16:=by omega
   subst hX;clear h h1 h2 hg hf;subst hN16;go_enter Tryz.func195,Tryz.ntmps195;go_wp2_with (go_at_call 225;refine(HG.o _).mono ?_;rintro e w1 ⟨rfl,ho⟩;obtain⟨q1,q2,q3⟩:=HXB.o _ ho;obtain⟨A,c,k1,k2,k3,k4,_⟩:=HOP.o _ ho;have HS:=h_ (HBX.o _ ho).right;clear ho);go_quiet (fail);go_wp2;go_ret;exact⟨rfl,HS.o.drewN _⟩
  ·rw[if_neg hf] at hX;have hN16:N<16:=by omega
   have e9:((N:Int)==16)=false:=by rw[beq_eq_false_iff_ne];omega
   obtain⟨i0,hi0,hz⟩:=Option.map_eq_some_iff.1 infoSeen_;simp only[Prod.mk.injEq] at hz;obtain⟨hz0,hz1,hz2⟩:=hz;have HI:=h_ hi0;have HZ0:=h_ hz0;have HZ1:=h_ hz1;have HZ2:=h_ hz2;have HON:Hid (∀u∈[Value.int .i64 s,.int .u64 v],u.oneCell'=true):=h_ (by intro u hu;simp at hu;rcases hu with rfl|rfl<;>rfl)
   have HRD:Hid (∀(w1:World),Reads (w1.alloc (.cells #[.int .i64 s,.int .u64 v] 148)) (w1.heap.size+1) 2 (some ⟨w1.heap.size,0,none⟩) 1 [.int .i64 s,.int .u64 v]):=h_ (fun w1=>by
    have h9:=Reads.of_blk (size:=2) (n:=1) (Blk.new w1 148 #[.int .i64 s,.int .u64 v]) rfl;rw[World.size_alloc] at h9;exact h9)
   have HFI:Hid (∀w2 A' c',Sat ω w2 (row 148 2 (.slice A' (N+1) c') (N+1) (vS l++[.int .i64 s,.int .u64 v])*(bk b 234 #[.int .i64 16,.slice A' (N+1) c']*(bk w.heap.size 148 #[.int .i64 s,.int .u64 v]*F)))→Sat ω w2 (rdH b (l++[(s,v)])*F)):=h_ (fun w2 A' c' h2=>by
    refine rdH_to (A:=A') (c:=c') ?_;rw[List.length_append,List.length_singleton,hN,vS_snoc];have h3:Sat ω w2 (bk w.heap.size 148 #[.int .i64 s,.int .u64 v]*(bk b 234 #[.int .i64 16,.slice A' (N+1) c']*(row 148 2 (.slice A' (N+1) c') (N+1) (vS l++[.int .i64 s,.int .u64 v])*F))):=h2.perm (by ac_rfl)
    exact h3.right)
   subst hX;clear h h1 h2 hg hf hN hi0 hz0 hz1 hz2 H HBX;go_enter Tryz.func195,Tryz.ntmps195;go_wp2_with (go_at_call 225;refine(HG.o _).mono ?_;rintro e w1 ⟨rfl,ho⟩;obtain⟨q1,q2,q3⟩:=HXB.o _ ho;obtain⟨A,c,k1,k2,k3,k4,k5⟩:=HOP.o _ ho;have HS:=h_ k5;clear ho k5);go_quiet (fail);go_wp2;clear k1 HG HXB HOP;have l91:b<w1.heap.size+1:=by omega
   have l93:∀q o,((w1.drewN q).alloc o).cell? ⟨b,1,none⟩=some (.slice A N c):=fun q o=>(((HS.o.drewN q).junk o).right.blk.cell 1)
   have l92:w.heap.size<w1.heap.size+1:=by omega
   refine wp_region_any (by kernel_rfl) ?_
   try (change wpAny _ _ _ _ _ _ _ (World.drew _))
   refine tF 0 ?_ rfl ?_ (tF 1 ?_ rfl ?_ (tF 2 ?_ rfl ?_ (tF 3 ?_ rfl ?_ ?_)));all_goals (try (
    intro w;go_simp<;>(try with_reducible rfl)))
   refine rF [4,5] ?_;refine AllReady.cons rfl (fun K hK=>?_) ?_
   ·go_simp;refine hK _ _ ?_;clear hK K;refine oF 5 rfl fun K hK=>?_
    go_simp;refine hK _ _ ?_;clear hK K;refine oF 6 rfl fun K hK=>?_
    go_simp;refine hK _ _ ?_;clear hK K;refine oF 7 rfl fun K hK=>?_
    refine sap 145 148 2 16 Tryz.underlying145 HI.o HZ0.o HZ1.o HZ2.o ((HS.o.drewN _).junk _) (HRD.o _) HON.o ?_;intro A' c' w2 hs;have kb:=hs.right.blk;have qf:=kb.frozen;have ql:=kb.lt;have q1:=kb.cell 1;have HY:=h_ (hs.swap.put 1 (.slice A' (N+1) c') (cs':=#[.int .i64 16,.slice A' (N+1) c']) rfl).swap;clear hs kb;refine hK _ _ ?_;clear hK K;refine tF 8 ?_ rfl ?_ (tF 9 ?_ rfl ?_ ?_);all_goals (try (
     intro w;go_simp<;>(try with_reducible rfl)))
    refine oF 10 rfl fun K hK=>?_
    go_simp;refine hK _ _ ?_;clear hK K;refine dF ?_;go_wp2;go_ret;exact⟨rfl,HFI.o _ _ _ HY.o⟩
   refine nF rfl fun K hK=>?_
   ·go_simp;refine hK _ _ ?_;clear hK K;refine rF [4,6] ?_;refine AllReady.cons rfl (fun K hK=>?_) ?_
    ·go_simp;refine hK _ _ ?_;clear hK K;refine oF 6 rfl fun K hK=>?_
     go_simp;refine hK _ _ ?_;clear hK K;refine oF 7 rfl fun K hK=>?_
     refine sap 145 148 2 16 Tryz.underlying145 HI.o HZ0.o HZ1.o HZ2.o ((HS.o.drewN _).junk _) (HRD.o _) HON.o ?_;intro A' c' w2 hs;have kb:=hs.right.blk;have qf:=kb.frozen;have ql:=kb.lt;have q1:=kb.cell 1;have HY:=h_ (hs.swap.put 1 (.slice A' (N+1) c') (cs':=#[.int .i64 16,.slice A' (N+1) c']) rfl).swap;clear hs kb;refine hK _ _ ?_;clear hK K;refine tF 8 ?_ rfl ?_ (tF 9 ?_ rfl ?_ ?_);all_goals (try (
      intro w;go_simp<;>(try with_reducible rfl)))
     refine oF 10 rfl fun K hK=>?_
     go_simp;refine hK _ _ ?_;clear hK K;refine dF ?_;go_wp2;go_ret;exact⟨rfl,HFI.o _ _ _ HY.o⟩
    refine nF rfl fun K hK=>?_
    ·go_simp;refine hK _ _ ?_;clear hK K;refine oF 4 rfl fun K hK=>?_
     go_simp;refine hK _ _ ?_;clear hK K;refine oF 7 rfl fun K hK=>?_
     refine sap 145 148 2 16 Tryz.underlying145 HI.o HZ0.o HZ1.o HZ2.o ((HS.o.drewN _).junk _) (HRD.o _) HON.o ?_;intro A' c' w2 hs;have kb:=hs.right.blk;have qf:=kb.frozen;have ql:=kb.lt;have q1:=kb.cell 1;have HY:=h_ (hs.swap.put 1 (.slice A' (N+1) c') (cs':=#[.int .i64 16,.slice A' (N+1) c']) rfl).swap;clear hs kb;refine hK _ _ ?_;clear hK K;refine tF 8 ?_ rfl ?_ (tF 9 ?_ rfl ?_ ?_);all_goals (try (
      intro w;go_simp<;>(try with_reducible rfl)))
     refine oF 10 rfl fun K hK=>?_
     go_simp;refine hK _ _ ?_;clear hK K;refine dF ?_;go_wp2;go_ret;exact⟨rfl,HFI.o _ _ _ HY.o⟩
theorem infoAny_:(Tryz.prog.info? 20).map (fun i=>(i.zero,i.size,i.bytes))=some (some (.nilIface),1,16):=by kernel_rfl
theorem cloneAny (ω w:World)(F:HP)(A:Option Addr)(n c:Nat)(xs:List Value)(h:Sat ω w (row 20 1 (.slice A n c) n xs*F))(hn:n≤1000000)(h1:∀u∈xs,u.oneCell'=true):
  Calls Tryz.prog 201 #[.slice A n c] w (RetR ω (row 20 1 (.slice A n c) n xs*F) 20 1 n xs):=by
 have H:=h_ h;have H1:=h_ h1;obtain⟨i0,hi,hz⟩:=Option.map_eq_some_iff.1 infoAny_;simp only[Prod.mk.injEq] at hz;obtain⟨hz0,hz1,hz2⟩:=hz;have HI:=h_ hi;have HZ0:=h_ hz0;have HZ1:=h_ hz1;have HZ2:=h_ hz2;rcases h.cases with⟨h2,h3,h4,h5⟩|⟨g,cap,cur,h2,h3,h4,h5,h6,h7,h8⟩
 ·injection h2 with h2a h2b h2c
  subst h2a h2c;clear hi hz0 hz1 hz2 h1 h5 H1;subst h3 h4;clear h h2b;have HX:=h_ (H.o.nil 20 1);have qT:∀(w:World) (a:Option Addr) (n c n' c':Nat),(binOp .eql 260 (.slice a n c) (.slice none n' c')).run Tryz.prog w=.ok (.bool a.isNone) w:=fun w a n c n' c'=>Lib.run_eql_slice_nil w _ _ a n c n' c' Tryz.underlying260
  go_enter Tryz.func201,Tryz.ntmps201;go_wp2;go_ret;exact⟨none,0,rfl,HX.o⟩
 ·injection h2 with h2a h2b h2c
  subst h2a;clear hi hz0 hz1 hz2 h1 h3 h4 h5 h6 h7 h8 h2b h2c;have HRD:Hid (Reads w w.heap.size 1 (some ⟨g,0,none⟩) n xs):=h_ h.reads;have HB:Hid (Sat ω (w.alloc (.cells #[] 20)) (row 20 1 (.slice (some ⟨w.heap.size,0,none⟩) 0 0) 0 []*(row 20 1 (.slice (some ⟨g,0,none⟩) n c) n xs*F))):=h_ (by
   have h9:=(h.new #[] 20).rowOf (n:=0) (size:=1) rfl (Nat.zero_le _);exact h9)
  clear h;have qT:∀(w:World) (a:Option Addr) (n c n' c':Nat),(binOp .eql 260 (.slice a n c) (.slice none n' c')).run Tryz.prog w=.ok (.bool a.isNone) w:=fun w a n c n' c'=>Lib.run_eql_slice_nil w _ _ a n c n' c' Tryz.underlying260
  go_enter Tryz.func201,Tryz.ntmps201;go_wp2_with (at_builtin;refine wpList_append_sat rfl _ _ 260 rfl 20 i0 _ 1 16 Tryz.underlying260 HI.o HZ0.o HZ1.o HZ2.o rfl (by decide) _ _ _ rfl HB.o _ _ _ _ _ rfl (HRD.o.alloc (Nat.le_refl _) _) H1.o (by unfold maxLen;omega) (by omega) ?_;intro A' c' w' hs;simp only[Nat.zero_add,List.nil_append] at hs ⊢;have HS:=h_ hs;clear hs)
  go_ret;exact⟨_,_,rfl,HS.o⟩
end Go.Proofs.YtfodmgaliclhfaaGreatDoor
